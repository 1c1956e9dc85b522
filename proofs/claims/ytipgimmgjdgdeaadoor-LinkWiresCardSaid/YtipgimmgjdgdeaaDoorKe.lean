/- Walks of package link: New, Down, Lost. -/
import Derived.Test.YtipgimmgjdgdeaaDoorKb
set_option linter.unusedVariables false
set_option linter.unusedSimpArgs false
set_option linter.unnecessarySimpa false
namespace Go.Proofs.YtipgimmgjdgdeaaDoor
open Go.RowKit
attribute [local go_sem] run_store_flt

def LnewP (w : World) (e : Ending) (w' : World) : Prop := ∃ L G I, e = .returned (.pointer (some ⟨L, 0, none⟩)) ∧ LinkAt (fun k => w.heap.size ≤ k ∧ k < w'.heap.size) w' L G I (.slice none 0 0) (.slice none 0 0) Lk.new ∧ Below w.heap.size w w'
set_option maxRecDepth 8000 in
set_option maxHeartbeats 800000 in
theorem lnew_any (w : World) : Calls Tryd.prog 36 #[] w (LnewP w) := by
  have HNo := Lib.hid (newOut_any w)
  go_enter Tryd.func36, Tryd.ntmps36
  go_wp2_with fail
  refine HNo.out.mono ?_
  rintro e w1 ⟨rfl, hb1, hs1, ho1⟩
  have HNi := Lib.hid (newIn_any w1)
  go_wp2_with fail
  refine HNi.out.mono ?_
  rintro e w2 ⟨rfl, hb2, hs2, hi2⟩
  have hz1 := hb1.size
  have hb12 := below_on hb1 hb2
  obtain ⟨w3, hw3⟩ : ∃ W, W = w2.alloc (Obj.cells #[.pointer (some ⟨w.heap.size, 0, none⟩), .pointer (some ⟨w1.heap.size, 0, none⟩), .slice none 0 0, .bool false, .int .i64 0, .int .i64 0] 67) := ⟨_, rfl⟩
  have hb3 : Below w2.heap.size w2 w3 := by rw [hw3]; exact below_box _ _
  have hs3 : w3.heap.size = w2.heap.size + 1 := by rw [hw3]; simp
  have hL : w3.heap[w2.heap.size]? = some (.cells #[.pointer (some ⟨w.heap.size, 0, none⟩), .pointer (some ⟨w1.heap.size, 0, none⟩), .slice none 0 0, .bool false, .int .i64 0, .int .i64 0] 67 (0, 0)) := by rw [hw3]; exact heap_alloc_new _ _
  have hoo := (((ho1.more (M' := fun k => w.heap.size ≤ k ∧ k < w1.heap.size) (fun k hk h => ⟨h, hk⟩)).on hb2).on hb3).more (M' := LkO (fun k => w.heap.size ≤ k ∧ k < w3.heap.size) w2.heap.size w1.heap.size (.slice none 0 0)) (fun k _ h => ⟨⟨h.1, by omega⟩, by omega, by omega, by simp [Value.ownBlock]⟩)
  have HF := Lib.hid (show LnewP w (.returned (.pointer (some ⟨w2.heap.size, 0, none⟩))) w3 from
    ⟨w2.heap.size, w.heap.size, w1.heap.size, rfl, ⟨hL, hoo, (hb3.block _ hi2.lt).trans hi2, ⟨rfl, .inl ⟨rfl, rfl⟩⟩, fun k hk => by simp [Value.ownBlock] at hk, ⟨by omega, by omega⟩, ⟨by omega, by omega⟩, by omega⟩, below_on hb12 hb3⟩)
  have HW3 := Lib.hid hw3.symm
  clear hb1 hs1 ho1 hb2 hs2 hi2 hb12 hw3 hb3 hs3 hL hoo hz1
  go_wp2_with (rw [HW3.out])
  go_ret
  exact HF.out
theorem rewireX {M : Nat → Prop} {w w' : World} {L G I : Nat} {v vw vw' : Value} {m m' : Lk} (s : LinkAt M w L G I v vw m) (hc : Chg (fun k => k = L ∨ some k = vw.ownBlock) w w') (hh : w'.heap[L]? = some (.cells #[.pointer (some ⟨G, 0, none⟩), .pointer (some ⟨I, 0, none⟩), vw', .bool m'.up, .int .i64 (m'.told : Nat), .int .i64 m'.since] 67 (0, 0)))
    (ho : m'.o = m.o) (hg : m'.got = m.got) (hw : w'.ownsRow 0 5 1 vw' m'.wire.length (bvs m'.wire)) (hM : ∀ k, w.heap.size ≤ k → M k) (hat : ∀ k, vw'.ownBlock = some k → vw.ownBlock = some k ∨ w.heap.size ≤ k) : LinkAt M w' L G I v vw' m' ∧ Chg (LinkB L G I v vw) w w' ∧ ∀ k, LinkB L G I v vw' k → LinkB L G I v vw k ∨ w.heap.size ≤ k := by
  refine ⟨s.rewire hc hh ho hg hw hM hat, hc.mono (fun i hi => ?_), fun k hk => ?_⟩
  · rcases hi with h | h
    · exact .inl h
    · exact .inr (.inr (.inr h))
  · rcases hk with h | h | h | h
    · exact .inl (.inl h)
    · exact .inl (.inr (.inl h))
    · exact .inl (.inr (.inr (.inl h)))
    · rcases hat k h.symm with h2 | h2
      · exact .inl (.inr (.inr (.inr h2.symm)))
      · exact .inr h2
theorem rewireT {M : Nat → Prop} {w w' : World} {L G I : Nat} {v vw vw' : Value} {m m' : Lk} (s : LinkAt M w L G I v vw m) (hc : Chg (fun k => k = L ∨ some k = vw.ownBlock) w w') (hh : w'.heap[L]? = some (.cells #[.pointer (some ⟨G, 0, none⟩), .pointer (some ⟨I, 0, none⟩), vw', .bool m'.up, .int .i64 (m'.told : Nat), .int .i64 m'.since] 67 (0, 0)))
    (ho : m'.o = m.o) (hg : m'.got = m.got) (hw : w'.ownsRow 0 5 1 vw' m'.wire.length (bvs m'.wire)) (hM : ∀ k, w.heap.size ≤ k → M k) (hat : ∀ k, vw'.ownBlock = some k → vw.ownBlock = some k ∨ w.heap.size ≤ k) : LinkT M w L G I v vw m' w' :=
  ⟨v, vw', rewireX s hc hh ho hg hw hM hat⟩
theorem LinkAt.downed {M : Nat → Prop} {w : World} {L G I : Nat} {v vw : Value} {m : Lk} (s : LinkAt M w L G I v vw m) (hM : ∀ k, w.heap.size ≤ k → M k) (now : Int) :
    LinkT M w L G I v vw { m with up := false, since := now, wire := [] } (((w.setCell ⟨L, 3, none⟩ (.bool false)).setCell ⟨L, 5, none⟩ (.int .i64 now)).setCell ⟨L, 2, none⟩ (.slice none 0 0)) := by
  have h1 : (w.setCell ⟨L, 3, none⟩ (.bool false)).heap[L]? = _ := heap_setCell_same _ _ 3 _ _ _ s.head
  have h2 : ((w.setCell ⟨L, 3, none⟩ (.bool false)).setCell ⟨L, 5, none⟩ (.int .i64 now)).heap[L]? = _ := heap_setCell_same _ _ 5 _ _ _ h1
  have h3 : (((w.setCell ⟨L, 3, none⟩ (.bool false)).setCell ⟨L, 5, none⟩ (.int .i64 now)).setCell ⟨L, 2, none⟩ (.slice none 0 0)).heap[L]? = _ := heap_setCell_same _ _ 2 _ _ _ h2
  exact rewireT s ((((Chg.refl _ w).setCell _ (.inl rfl)).setCell _ (.inl rfl)).setCell _ (.inl rfl)) (h3.trans rfl) rfl rfl ⟨rfl, .inl ⟨rfl, rfl⟩⟩ hM (fun k hk => by simp [Value.ownBlock] at hk)
theorem Lk.down_up (m : Lk) (now : Int) (h : m.up = true) : m.down now = { m with up := false, since := now, wire := [] } := by simp [Lk.down, h]
theorem Lk.down_no (m : Lk) (now : Int) (h : m.up = false) : m.down now = m := by simp [Lk.down, h]
set_option maxRecDepth 8000 in
set_option maxHeartbeats 1600000 in
theorem down_any (M : Nat → Prop) (w : World) (L G I : Nat) (v vw : Value) (m : Lk) (now : Int) (s : LinkAt M w L G I v vw m) (hM : ∀ k, w.heap.size ≤ k → M k) :
    Calls Tryd.prog 45 #[.pointer (some ⟨L, 0, none⟩), .int .i64 now] w (WriteP M w L G I v vw (m.down now)) := by
  have HS := Lib.hid s
  have HM := Lib.hid hM
  have g1 := s.c3
  have gf := s.fz
  have gc := s.c0
  have gd := s.c2
  have ge := s.c5
  have hl := s.lt
  clear s hM
  go_enter Tryd.func45, Tryd.ntmps45
  cases hup : m.up with
  | false =>
    have HD := Lib.hid (Lk.down_no m now hup)
    rw [hup] at g1
    clear hup
    go_wp2_with fail
    go_end0
    exact ⟨rfl, by rw [HD.out]; exact LinkT.refl HS.out⟩
  | true =>
    have HD := Lib.hid (Lk.down_up m now hup)
    rw [hup] at g1
    clear hup
    go_wp2_with fail
    go_end0
    exact ⟨rfl, by rw [HD.out]; exact HS.out.downed HM.out now⟩
def lostB (m : Lk) (now : Int) : Bool := !m.up && decide (m.since < now) && decide (20 < now - m.since)
theorem u64_sub (a b : Int) (h : b < a) (ha : a ≤ 9223372036854775807) (hb : -9223372036854775808 ≤ b) : IntKind.u64.wrap (IntKind.u64.wrap a - IntKind.u64.wrap b) = a - b := by
  simp only [IntKind.wrap_u64]
  omega
set_option maxRecDepth 8000 in
set_option maxHeartbeats 1600000 in
theorem lost_any (M : Nat → Prop) (w : World) (L G I : Nat) (v vw : Value) (m : Lk) (now : Int) (s : LinkAt M w L G I v vw m) (hn : now ≤ 9223372036854775807) (hs : -9223372036854775808 ≤ m.since) :
    Calls Tryd.prog 48 #[.pointer (some ⟨L, 0, none⟩), .int .i64 now] w (fun e w' => e = .returned (.bool (lostB m now)) ∧ w' = w) := by
  have g1 := s.c3
  have g2 := s.c5
  clear s
  go_enter Tryd.func48, Tryd.ntmps48
  have HL := Lib.hid (show lostB m now = (!m.up && decide (m.since < now) && decide (20 < now - m.since)) from rfl)
  cases hup : m.up with
  | true =>
    rw [hup] at g1
    have HR := Lib.hid (show lostB m now = false by rw [HL.out, hup]; rfl)
    clear hup
    go_wp2_with fail
    go_ret
    exact ⟨by rw [HR.out]; rfl, rfl⟩
  | false =>
    rw [hup] at g1
    by_cases h1 : m.since < now
    · have hu := u64_sub now m.since h1 hn hs
      have HR := Lib.hid (show lostB m now = decide (20 < now - m.since) by rw [HL.out, hup, decide_eq_true h1]; rfl)
      clear hup
      go_wp2_with fail
      go_ret
      exact ⟨by rw [HR.out]; rfl, rfl⟩
    · have HR := Lib.hid (show lostB m now = false by rw [HL.out, hup, decide_eq_false h1]; rfl)
      clear hup
      go_wp2_with fail
      go_ret
      exact ⟨by rw [HR.out]; rfl, rfl⟩
theorem cutH {F G : World → Prop} {R : Prop} (h1 : (∀ W, F W → G W) → R) (h2 : ∀ W, F W → G W) : R := h1 h2
set_option maxRecDepth 8000 in
set_option maxHeartbeats 3200000 in
/-- A link that is down takes nothing. -/
theorem ltake_down (es : Er → Addr) (M : Nat → Prop) (w : World) (L G I : Nat) (v vw : Value) (m : Lk) (f : Fr) (A : Option Addr) (c : Nat) (hE : REnv w es) (s : LinkAt M w L G I v vw m) (hup : m.up = false) :
    Calls Tryd.prog 38 #[.pointer (some ⟨L, 0, none⟩), frV f A c] w (fun e w' => e = .returned (.tuple #[.bool false, errV (es .state)]) ∧ Below w.heap.size w w') := by
  obtain ⟨w1, hw1, hb1, hs1, hf1⟩ := box_world w f A c
  have s1 := s.on hb1
  have g3 := s1.c3
  rw [hup] at g3
  have he := (hE.step hb1).fenv.e3.state.at
  unfold errV at he
  have HB1 := Lib.hid hb1
  have HW1 := Lib.hid hw1.symm
  clear hE hb1 hw1 s s1 hup hs1
  unfold frV
  simp only [frCs] at HW1
  go_enter Tryd.func38, Tryd.ntmps38
  go_wp2_with (rw [HW1.out])
  go_quiet (fail)
  go_wp2_with fail
  go_ret2
  exact ⟨rfl, below_drewN HB1.out _⟩
set_option maxRecDepth 8000 in
set_option maxHeartbeats 3200000 in
/-- An ack lets go of what has come. -/
theorem ltake_ack (es : Er → Addr) (M : Nat → Prop) (w : World) (L G I : Nat) (v vw : Value) (m : Lk) (f : Fr) (A : Option Addr) (c : Nat) (hE : REnv w es) (s : LinkAt M w L G I v vw m) (hf : m.fine) (hl : f.lens) (hA : RdC (· < w.heap.size) w A (bvs f.bytes)) (hup : m.up = true) (hk : f.kind = 6) (hc : checkF f = true) (h1 : f.got ≤ (m.o.last : Int)) (hM : ∀ k, w.heap.size ≤ k → M k) :
    Calls Tryd.prog 38 #[.pointer (some ⟨L, 0, none⟩), frV f A c] w (fun e w' => e = .returned (.tuple #[.bool false, .nilIface]) ∧ LinkT M w L G I v vw { m with o := m.o.ack f.got.toNat } w') := by
  obtain ⟨w1, hw1, hb1, hs1, hf1⟩ := box_world w f A c
  have hgo := ack_got hc hk
  have s1 : LinkAt (fun k => M k ∧ k ≠ w.heap.size) w1 L G I v vw m := (s.more (M' := fun k => M k ∧ k ≠ w.heap.size) (fun k hk h => ⟨h, by omega⟩)).on hb1
  have hck := checkF_any es f A c w1 ((hE.step hb1).fenv) hl (hA.step hb1)
  have HCk := Lib.hid (hck.mono fun e w' h => (show e = .returned .nilIface ∧ Below w1.heap.size w1 w' from ⟨by rw [h.1, hc]; rfl, h.2⟩))
  have g3 := s1.c3
  rw [hup] at g3
  have HE := Lib.hid hE
  have HS := Lib.hid s
  have HS1 := Lib.hid s1
  have HFn := Lib.hid hf
  have HM := Lib.hid hM
  have HB1 := Lib.hid hb1
  have HF1 := Lib.hid hf1
  have HW1 := Lib.hid hw1.symm
  have HK := Lib.hid hk
  obtain ⟨c0, c1, c2, c3, c4, c5, c6, c7, c8, c9⟩ := hf1
  rw [hk] at c0
  have hlt1 : w.heap.size < w1.heap.size := by omega
  clear hE hb1 hw1 s s1 hf hl hA hup hs1 hck hM
  unfold frV at HCk
  unfold frV
  simp only [frCs] at HW1
  rw [hk] at HW1 HCk ⊢
  clear hk hc
  go_enter Tryd.func38, Tryd.ntmps38
  go_wp2_with (rw [HW1.out])
  refine HCk.out.mono ?_
  rintro e w2 ⟨rfl, hb2⟩
  have s2 := HS1.out.on hb2
  have hb2w := below_on HB1.out hb2
  have hF2 := HF1.out.on hlt1 hb2
  clear c0 c1 c2 c3 c4 c5 c6 c7 c8 c9 g3
  obtain ⟨c0, c1, c2, c3, c4, c5, c6, c7, c8, c9⟩ := hF2
  have g0 := s2.c0
  have hs2d := s2.on (Below.refl w2.heap.size w2).drew
  have hak := ack_any es _ w2.drew G v m.o f.got (HE.out.step hb2w.drew) hs2d.out HFn.out.o
  have HAk := Lib.hid (hak.mono fun e w' h => h.1 ⟨hgo.1, h1⟩)
  have HS2 := Lib.hid s2
  have HB2 := Lib.hid hb2w
  have hP2 : w.heap.size < w2.heap.size := by have := hb2.size; omega
  clear hb2 s2 hb2w hs2d hak
  go_wp2_with fail
  apply cutH (F := fun w3 => Chg (· = G) w2.drew w3 ∧ ∃ v3, OutAt (LkO (fun k => M k ∧ k ≠ w.heap.size) L I vw) w3 G v3 (m.o.ack f.got.toNat) ∧ (cutB v3 = cutB v ∨ cutB v3 = none))
  · intro hrest
    have HRest := Lib.hid hrest
    clear hrest
    go_region_law (go_simp; refine HAk.out.mono ?_; rintro e w3 ⟨rfl, hch3, v3, ho3, hcut3⟩)
    all_goals exact HRest.out _ ⟨hch3, v3, ho3, hcut3⟩
  · rintro w3 ⟨hch3, v3, ho3, hcut3⟩
    clear c0 c1 c2 c3 c4 c5 c6 c7 c8 c9 g0
    go_wp2_with fail
    go_ret2
    have s2 := HS2.out.on (Below.refl w2.heap.size w2).drew
    have s3 : LinkAt (fun k => M k ∧ k ≠ w.heap.size) w3 L G I v3 vw { m with o := m.o.ack f.got.toNat } := s2.outs (hch3.mono (fun i e => .inl e)) ho3 rfl rfl rfl rfl rfl
    refine ⟨rfl, v3, vw, s3.more (fun k _ h => h.1), (Chg.of_below HB2.out.drew).trans hch3 (fun i _ e => .inr (.inr (.inl (.inl e)))), fun k hk => .inl ?_⟩
    rcases hk with h | h | h | h
    · exact .inl h
    · exact .inr (.inl h)
    · rcases h with h | h
      · exact .inr (.inr (.inl (.inl h)))
      · rcases hcut3 with e | e
        · exact .inr (.inr (.inl (.inr (by rw [h, e]))))
        · rw [e] at h; cases h
    · exact .inr (.inr (.inr h))
set_option maxRecDepth 8000 in
set_option maxHeartbeats 3200000 in
/-- All else is the row in's. -/
theorem ltake_row (es : Er → Addr) (M : Nat → Prop) (w : World) (L G I : Nat) (v vw : Value) (m : Lk) (f : Fr) (A : Option Addr) (c : Nat) (hE : REnv w es) (s : LinkAt M w L G I v vw m) (hf : m.fine) (hl : f.lens) (hA : RdC (· < w.heap.size) w A (bvs f.bytes)) (hup : m.up = true) (hk : f.kind ≠ 6) (hM : ∀ k, w.heap.size ≤ k → M k) :
    Calls Tryd.prog 38 #[.pointer (some ⟨L, 0, none⟩), frV f A c] w (fun e w' => e = .returned (.tuple #[.bool (takeB (takeR m.got f)), takeE es (takeR m.got f)]) ∧ LinkT M w L G I v vw { m with got := gotR m.got f } w') := by
  obtain ⟨w1, hw1, hb1, hs1, hf1⟩ := box_world w f A c
  have s1 : LinkAt (fun k => M k ∧ k ≠ w.heap.size) w1 L G I v vw m := (s.more (M' := fun k => M k ∧ k ≠ w.heap.size) (fun k hk h => ⟨h, by omega⟩)).on hb1
  have g3 := s1.c3
  rw [hup] at g3
  have g0 := s1.c1
  have hs1d := s1.on (Below.refl w1.heap.size w1).drew
  have htk := rtake_any es w1.drew I m.got f A c (hE.step hb1.drew) hs1d.inn hf.got hl (hA.step hb1.drew)
  have HTk := Lib.hid htk
  have hke : (f.kind == 6) = false := by rw [beq_eq_false_iff_ne]; exact hk
  have HS1 := Lib.hid s1
  have HS1d := Lib.hid hs1d
  have HB1 := Lib.hid hb1
  have HW1 := Lib.hid hw1.symm
  obtain ⟨c0, c1, c2, c3, c4, c5, c6, c7, c8, c9⟩ := hf1
  have hlt1 : w.heap.size < w1.heap.size := by omega
  clear hE hb1 hw1 s s1 hf hl hA hup hs1 hM htk hk hs1d
  unfold frV at HTk
  unfold frV
  simp only [frCs] at HW1
  go_enter Tryd.func38, Tryd.ntmps38
  go_wp2_with (rw [HW1.out])
  apply cutH (F := fun w3 => ∃ w2, Below w1.drew.heap.size w1.drew w2 ∧ w3 = w2.setCell ⟨I, 0, none⟩ (.int .i64 (gotR m.got f : Nat)))
  · intro hrest
    have HRest := Lib.hid hrest
    clear hrest
    go_region_law (go_simp; refine HTk.out.mono ?_; rintro e w3 ⟨rfl, w2, hb2, hw3⟩)
    all_goals exact HRest.out _ ⟨w2, hb2, rfl⟩
  · rintro w3 ⟨w2, hb2, rfl⟩
    clear c0 c1 c2 c3 c4 c5 c6 c7 c8 c9 g0
    go_wp2_with fail
    go_ret2
    have s2 := HS1d.out.on hb2
    have hI : (w2.setCell ⟨I, 0, none⟩ (.int .i64 (gotR m.got f : Nat))).heap[I]? = _ := heap_setCell_same _ _ 0 _ _ _ s2.inn
    have hc : Chg (· = I) w2 (w2.setCell ⟨I, 0, none⟩ (.int .i64 (gotR m.got f : Nat))) := (Chg.refl _ w2).setCell _ rfl
    have s3 : LinkAt (fun k => M k ∧ k ≠ w.heap.size) (w2.setCell ⟨I, 0, none⟩ (.int .i64 (gotR m.got f : Nat))) L G I v vw { m with got := gotR m.got f } := s2.ins hc (hI.trans rfl) rfl rfl rfl rfl rfl
    exact ⟨rfl, v, vw, s3.more (fun k _ h => h.1), (Chg.of_below (below_on HB1.out.drew hb2)).trans hc (fun i _ e => .inr (.inl e)), fun k hk => .inl hk⟩
end Go.Proofs.YtipgimmgjdgdeaaDoor
