/- One side of a tunnel in memory; walks of package link: IsUp, Got, Pending, Lost, Down. -/
import Derived.Test.YtipgimmgjdgdeaaDoorJh
import Derived.Test.YtipgimmgjdgdeaaDoorKa
set_option linter.unusedVariables false
set_option linter.unusedSimpArgs false
set_option linter.unnecessarySimpa false
namespace Go.Proofs.YtipgimmgjdgdeaaDoor
open Go.RowKit
attribute [local go_sem] run_store_flt

theorem own_of_blockL {w w' : World} {base : Nat} {e : TypeId} {size n : Nat} {v : Value} {xs : List Value} (h : w.ownsRow base e size v n xs) (hb : ∀ k, v.ownBlock = some k → w'.heap[k]? = w.heap[k]?) : w'.ownsRow base e size v n xs := by
  refine ⟨h.1, ?_⟩
  rcases h.2 with ⟨rfl, h0⟩ | ⟨g, cap, cur, rfl, h1, h2, rest⟩
  · exact .inl ⟨rfl, h0⟩
  · exact .inr ⟨g, cap, cur, rfl, h1, (hb g rfl).trans h2, rest⟩
/-- The blocks that the row out may lie in. -/
def LkO (M : Nat → Prop) (L I : Nat) (vw : Value) (k : Nat) : Prop := M k ∧ k ≠ L ∧ k ≠ I ∧ some k ≠ vw.ownBlock
structure LinkAt (M : Nat → Prop) (w : World) (L G I : Nat) (v vw : Value) (m : Lk) : Prop where
  head : w.heap[L]? = some (.cells #[.pointer (some ⟨G, 0, none⟩), .pointer (some ⟨I, 0, none⟩), vw, .bool m.up, .int .i64 (m.told : Nat), .int .i64 m.since] 67 (0, 0))
  out : OutAt (LkO M L I vw) w G v m.o
  inn : InAt w I m.got
  wire : w.ownsRow 0 5 1 vw m.wire.length (bvs m.wire)
  wM : ∀ k, vw.ownBlock = some k → M k ∧ k ≠ L ∧ k ≠ I
  lM : M L
  iM : M I
  li : L ≠ I
/-- What calls on a link may turn of the world that was there. -/
def LinkB (L G I : Nat) (v vw : Value) (k : Nat) : Prop := k = L ∨ k = I ∨ OutS G v k ∨ some k = vw.ownBlock
section
variable {M M' : Nat → Prop} {w w' : World} {L G I : Nat} {v vw : Value} {m : Lk}
theorem LinkAt.lt (s : LinkAt M w L G I v vw m) : L < w.heap.size := (Array.getElem?_eq_some_iff.1 s.head).1
theorem LinkAt.ltI (s : LinkAt M w L G I v vw m) : I < w.heap.size := s.inn.lt
theorem LinkAt.ltG (s : LinkAt M w L G I v vw m) : G < w.heap.size := s.out.lt
theorem LinkAt.ltW (s : LinkAt M w L G I v vw m) (k : Nat) (h : vw.ownBlock = some k) : k < w.heap.size := (s.wire.lt k h).2
theorem LinkAt.inB (s : LinkAt M w L G I v vw m) (k : Nat) (h : LinkB L G I v vw k) : M k ∧ k < w.heap.size := by
  rcases h with rfl | rfl | h | h
  · exact ⟨s.lM, s.lt⟩
  · exact ⟨s.iM, s.ltI⟩
  · rcases h with rfl | h
    · exact ⟨s.out.le.1, s.ltG⟩
    · exact ⟨(s.out.ltB k h.symm).1.1, (s.out.ltB k h.symm).2⟩
  · exact ⟨(s.wM k h.symm).1, s.ltW k h.symm⟩
theorem LinkAt.more (s : LinkAt M w L G I v vw m) (h : ∀ k, k < w.heap.size → M k → M' k) : LinkAt M' w L G I v vw m :=
  ⟨s.head, s.out.more (fun k hk hm => ⟨h k hk hm.1, hm.2⟩), s.inn, s.wire, fun k hk => ⟨h k (s.ltW k hk) (s.wM k hk).1, (s.wM k hk).2⟩, h L s.lt s.lM, h I s.ltI s.iM, s.li⟩
theorem LinkAt.move (s : LinkAt M w L G I v vw m) (hz : w.heap.size ≤ w'.heap.size) (hb : ∀ i, M i → i < w.heap.size → w'.heap[i]? = w.heap[i]?) : LinkAt M w' L G I v vw m :=
  ⟨(hb L s.lM s.lt).trans s.head, s.out.move hz (fun i hi => hb i hi.1), (hb I s.iM s.ltI).trans s.inn, own_of_blockL s.wire (fun k hk => hb k (s.wM k hk).1 (s.ltW k hk)), s.wM, s.lM, s.iM, s.li⟩
theorem LinkAt.on (s : LinkAt M w L G I v vw m) (hb : Below w.heap.size w w') : LinkAt M w' L G I v vw m :=
  s.move hb.size (fun i _ hi => hb.block i hi)
theorem LinkAt.c0 (s : LinkAt M w L G I v vw m) : w.cell? ⟨L, 0, none⟩ = some (.pointer (some ⟨G, 0, none⟩)) := (cell_of_row _ _ _ _ _ _ s.head).trans rfl
theorem LinkAt.c1 (s : LinkAt M w L G I v vw m) : w.cell? ⟨L, 1, none⟩ = some (.pointer (some ⟨I, 0, none⟩)) := (cell_of_row _ _ _ _ _ _ s.head).trans rfl
theorem LinkAt.c2 (s : LinkAt M w L G I v vw m) : w.cell? ⟨L, 2, none⟩ = some vw := (cell_of_row _ _ _ _ _ _ s.head).trans rfl
theorem LinkAt.c3 (s : LinkAt M w L G I v vw m) : w.cell? ⟨L, 3, none⟩ = some (.bool m.up) := (cell_of_row _ _ _ _ _ _ s.head).trans rfl
theorem LinkAt.c4 (s : LinkAt M w L G I v vw m) : w.cell? ⟨L, 4, none⟩ = some (.int .i64 (m.told : Nat)) := (cell_of_row _ _ _ _ _ _ s.head).trans rfl
theorem LinkAt.c5 (s : LinkAt M w L G I v vw m) : w.cell? ⟨L, 5, none⟩ = some (.int .i64 m.since) := (cell_of_row _ _ _ _ _ _ s.head).trans rfl
theorem LinkAt.fz (s : LinkAt M w L G I v vw m) (i : Nat) : w.frozen? ⟨L, i, none⟩ = false := frozen_of_row w L i _ _ s.head
theorem LinkAt.shape (s : LinkAt M w L G I v vw m) : ∃ A c, vw = .slice A m.wire.length c ∧ m.wire.length ≤ c := by
  obtain ⟨A, c, h1, h2, _⟩ := own_slice s.wire
  exact ⟨A, c, h1, h2⟩
/-- The cells of the link alone are turned (its wire stays where it is). -/
theorem LinkAt.cells (s : LinkAt M w L G I v vw m) {m' : Lk} (hc : Chg (· = L) w w') (hh : w'.heap[L]? = some (.cells #[.pointer (some ⟨G, 0, none⟩), .pointer (some ⟨I, 0, none⟩), vw, .bool m'.up, .int .i64 (m'.told : Nat), .int .i64 m'.since] 67 (0, 0)))
    (ho : m'.o = m.o) (hg : m'.got = m.got) (hw : m'.wire = m.wire) : LinkAt M w' L G I v vw m' := by
  have hz := hc.size
  refine ⟨hh, ?_, ?_, ?_, s.wM, s.lM, s.iM, s.li⟩
  · rw [ho]; exact s.out.move hz (fun i hi hl => hc.block i hl hi.2.1)
  · rw [hg]; exact (hc.block I s.ltI (fun e => s.li e.symm)).trans s.inn
  · rw [hw]; exact own_of_blockL s.wire (fun k hk => hc.block k (s.ltW k hk) (s.wM k hk).2.1)
/-- A link whose wire is a new one. -/
theorem LinkAt.rewire (s : LinkAt M w L G I v vw m) {m' : Lk} {vw' : Value} (hc : Chg (fun k => k = L ∨ some k = vw.ownBlock) w w') (hh : w'.heap[L]? = some (.cells #[.pointer (some ⟨G, 0, none⟩), .pointer (some ⟨I, 0, none⟩), vw', .bool m'.up, .int .i64 (m'.told : Nat), .int .i64 m'.since] 67 (0, 0)))
    (ho : m'.o = m.o) (hg : m'.got = m.got) (hw : w'.ownsRow 0 5 1 vw' m'.wire.length (bvs m'.wire)) (hM : ∀ k, w.heap.size ≤ k → M k) (hat : ∀ k, vw'.ownBlock = some k → vw.ownBlock = some k ∨ w.heap.size ≤ k) : LinkAt M w' L G I v vw' m' := by
  have hz := hc.size
  have hI : w'.heap[I]? = w.heap[I]? := hc.block I s.ltI (fun e => by
    rcases e with e | e
    · exact s.li e.symm
    · exact (s.wM I e.symm).2.2 rfl)
  refine ⟨hh, ?_, ?_, hw, fun k hk => ?_, s.lM, s.iM, s.li⟩
  · rw [ho]
    have h1 := (s.out.more (M' := fun k => LkO M L I vw k ∧ k < w.heap.size) (fun k hk h => ⟨h, hk⟩)).move (w' := w') hz (fun i hi hl => hc.block i hl (fun e => by
      rcases e with e | e
      · exact hi.1.2.1 e
      · exact hi.1.2.2.2 e))
    refine h1.more (fun k _ hk => ⟨hk.1.1, hk.1.2.1, hk.1.2.2.1, fun e => ?_⟩)
    rcases hat k e.symm with h2 | h2
    · exact hk.1.2.2.2 h2.symm
    · have := hk.2; omega
  · rw [hg]; exact hI.trans s.inn
  · rcases hat k hk with h2 | h2
    · exact s.wM k h2
    · exact ⟨hM k h2, by have := s.lt; omega, by have := s.ltI; omega⟩
/-- The row out has turned. -/
theorem LinkAt.outs (s : LinkAt M w L G I v vw m) {m' : Lk} {v' : Value} (hc : Chg (OutS G v) w w') (ho : OutAt (LkO M L I vw) w' G v' m'.o) (hu : m'.up = m.up) (ht : m'.told = m.told) (hs : m'.since = m.since) (hg : m'.got = m.got) (hw : m'.wire = m.wire) : LinkAt M w' L G I v' vw m' := by
  have hn : ∀ k, ¬ LkO M L I vw k → k < w.heap.size → w'.heap[k]? = w.heap[k]? := fun k hk hl => hc.block k hl (fun e => by
    rcases e with rfl | e
    · exact hk s.out.le
    · exact hk (s.out.ltB k e.symm).1)
  refine ⟨?_, ho, ?_, ?_, s.wM, s.lM, s.iM, s.li⟩
  · rw [hu, ht, hs]; exact (hn L (fun e => e.2.1 rfl) s.lt).trans s.head
  · rw [hg]; exact (hn I (fun e => e.2.2.1 rfl) s.ltI).trans s.inn
  · rw [hw]; exact own_of_blockL s.wire (fun k hk => hn k (fun e => e.2.2.2 hk.symm) (s.ltW k hk))
/-- The row in has turned. -/
theorem LinkAt.ins (s : LinkAt M w L G I v vw m) {m' : Lk} (hc : Chg (· = I) w w') (hi : InAt w' I m'.got) (ho : m'.o = m.o) (hu : m'.up = m.up) (ht : m'.told = m.told) (hs : m'.since = m.since) (hw : m'.wire = m.wire) : LinkAt M w' L G I v vw m' := by
  refine ⟨?_, ?_, hi, ?_, s.wM, s.lM, s.iM, s.li⟩
  · rw [hu, ht, hs]; exact (hc.block L s.lt s.li).trans s.head
  · rw [ho]; exact s.out.move hc.size (fun i h hl => hc.block i hl h.2.2.1)
  · rw [hw]; exact own_of_blockL s.wire (fun k hk => hc.block k (s.ltW k hk) (s.wM k hk).2.2)
end
theorem LinkAt.base {M : Nat → Prop} {w w' w0 : World} {L G I : Nat} {v vw : Value} {m : Lk} (s : LinkAt M w L G I v vw m) (h : Chg (LinkB L G I v vw) w w') (h0 : Below w0.heap.size w0 w) (hMb : ∀ k, M k → w0.heap.size ≤ k) : Below w0.heap.size w0 w' :=
  h0.trans (h.below h0.size (fun i hi e => hMb i (s.inB i e).1))
/-- What a call leaves of a link. -/
def LinkT (M : Nat → Prop) (w : World) (L G I : Nat) (v vw : Value) (m' : Lk) (w' : World) : Prop :=
  ∃ v' vw', LinkAt M w' L G I v' vw' m' ∧ Chg (LinkB L G I v vw) w w' ∧ ∀ k, LinkB L G I v' vw' k → LinkB L G I v vw k ∨ w.heap.size ≤ k
theorem LinkT.refl {M : Nat → Prop} {w : World} {L G I : Nat} {v vw : Value} {m : Lk} (s : LinkAt M w L G I v vw m) : LinkT M w L G I v vw m w := ⟨v, vw, s, Chg.refl _ _, fun k h => .inl h⟩
theorem LinkT.below {M : Nat → Prop} {w w' : World} {L G I : Nat} {v vw : Value} {m : Lk} (s : LinkAt M w L G I v vw m) (hb : Below w.heap.size w w') : LinkT M w L G I v vw m w' := ⟨v, vw, s.on hb, Chg.of_below hb, fun k h => .inl h⟩
theorem LinkT.trans {M : Nat → Prop} {w w1 w2 : World} {L G I : Nat} {v vw v1 vw1 : Value} {m2 : Lk} (h1 : Chg (LinkB L G I v vw) w w1) (h2 : ∀ k, LinkB L G I v1 vw1 k → LinkB L G I v vw k ∨ w.heap.size ≤ k) (h : LinkT M w1 L G I v1 vw1 m2 w2) : LinkT M w L G I v vw m2 w2 := by
  obtain ⟨v2, vw2, h3, h4, h5⟩ := h
  refine ⟨v2, vw2, h3, h1.trans h4 (fun i hi e => ?_), fun k hk => ?_⟩
  · rcases h2 i e with h | h
    · exact h
    · omega
  · rcases h5 k hk with h | h
    · exact h2 k h
    · exact .inr (by have := h1.size; omega)
set_option maxHeartbeats 800000 in
theorem isUp_any (M : Nat → Prop) (w : World) (L G I : Nat) (v vw : Value) (m : Lk) (s : LinkAt M w L G I v vw m) :
    Calls Tryd.prog 49 #[.pointer (some ⟨L, 0, none⟩)] w (ValP w (.bool m.up)) := by
  have g1 := s.c3
  clear s
  go_enter Tryd.func49, Tryd.ntmps49
  go_wp2_with fail
  go_ret
  exact ⟨rfl, 0, rfl⟩
set_option maxHeartbeats 800000 in
theorem pending_any (M : Nat → Prop) (w : World) (L G I : Nat) (v vw : Value) (m : Lk) (s : LinkAt M w L G I v vw m) :
    Calls Tryd.prog 41 #[.pointer (some ⟨L, 0, none⟩)] w (ValP w (.int .i64 (m.wire.length : Nat))) := by
  obtain ⟨A, c, rfl, _⟩ := s.shape
  have g1 := s.c2
  clear s
  go_enter Tryd.func41, Tryd.ntmps41
  go_wp2_with fail
  go_ret
  exact ⟨rfl, 0, rfl⟩
set_option maxHeartbeats 800000 in
theorem lgot_any (M : Nat → Prop) (w : World) (L G I : Nat) (v vw : Value) (m : Lk) (s : LinkAt M w L G I v vw m) :
    Calls Tryd.prog 42 #[.pointer (some ⟨L, 0, none⟩)] w (ValP w (.int .i64 (m.got : Nat))) := by
  have g1 := s.c1
  have HG := Lib.hid (got_any w I m.got s.inn)
  clear s
  go_enter Tryd.func42, Tryd.ntmps42
  go_wp2_with fail
  refine HG.out.mono ?_
  rintro e w1 ⟨rfl, n, rfl⟩
  go_wp2_with fail
  go_ret
  exact ⟨rfl, n, rfl⟩
/-- A call that answers nothing. -/
def WriteP (M : Nat → Prop) (w : World) (L G I : Nat) (v vw : Value) (m' : Lk) (e : Ending) (w' : World) : Prop := e = .returned (.tuple #[]) ∧ LinkT M w L G I v vw m' w'
theorem LinkAt.wired {M : Nat → Prop} {w w3 : World} {L G I : Nat} {v vw v3 : Value} {m : Lk} {x : Bs} (s : LinkAt M w L G I v vw m) (hown : w3.ownsRow 0 5 1 v3 (m.wire.length + x.length) (bvs m.wire ++ bvs x)) (hg : Grew w vw w3 v3) (hM : ∀ k, w.heap.size ≤ k → M k) :
    LinkT M w L G I v vw { m with wire := m.wire ++ x } (w3.setCell ⟨L, 2, none⟩ v3) := by
  have hL : w3.heap[L]? = _ := (hg.by_.block L s.lt (fun e => (s.wM L e.symm).2.1 rfl)).trans s.head
  have hc : Chg (fun k => k = L ∨ some k = vw.ownBlock) w (w3.setCell ⟨L, 2, none⟩ v3) := (Chg.of_grown hg.by_ (fun i hi => .inr hi)).setCell _ (.inl rfl)
  have hne : ∀ k, v3.ownBlock = some k → k ≠ L := fun k hk e => by
    subst e
    exact hg.ne (fun e => (s.wM _ e.symm).2.1 rfl) s.lt hk.symm
  have hat : ∀ k, v3.ownBlock = some k → vw.ownBlock = some k ∨ w.heap.size ≤ k := fun k hk => by
    rcases hg.at_ with h | ⟨b, h, hb⟩
    · exact .inl (h ▸ hk)
    · rw [h] at hk; injection hk with hk; exact .inr (by omega)
  refine ⟨v, v3, s.rewire hc ((heap_setCell_same _ _ 2 _ _ _ hL).trans rfl) rfl rfl ?_ hM hat, hc.mono (fun i hi => ?_), fun k hk => ?_⟩
  · show World.ownsRow _ 0 _ 1 v3 (m.wire ++ x).length (bvs (m.wire ++ x))
    rw [bvs_append, List.length_append]
    exact own_of_blockL hown (fun k hk => heap_setCell_other _ _ _ _ (hne k hk))
  · rcases hi with h | h
    · exact .inl h
    · exact .inr (.inr (.inr h))
  · rcases hk with h | h | h | h
    · exact .inl (.inl h)
    · exact .inl (.inr (.inl h))
    · exact .inl (.inr (.inr (.inl h)))
    · rcases hat k h.symm with h2 | h2
      · exact .inl (.inr (.inr (.inr h2.symm)))
      · exact .inr h2
set_option maxRecDepth 8000 in
set_option maxHeartbeats 3200000 in
theorem write_any (es : Er → Addr) (M : Nat → Prop) (w : World) (L G I : Nat) (v vw : Value) (m : Lk) (f : Fr) (A : Option Addr) (c : Nat) (hE : REnv w es) (s : LinkAt M w L G I v vw m) (hl : f.lens) (hA : RdC (· < w.heap.size) w A (bvs f.bytes)) (hM : ∀ k, w.heap.size ≤ k → M k) (hwl : m.wire.length ≤ 1000000000000) :
    Calls Tryd.prog 59 #[.pointer (some ⟨L, 0, none⟩), frV f A c] w (WriteP M w L G I v vw { m with wire := m.wire ++ wireF f }) := by
  obtain ⟨w1, hw1, hb1, hs1, hf1⟩ := box_world w f A c
  have HPut := Lib.hid (putF_any es f A c w1 ((hE.step hb1).fenv) hl (hA.step hb1))
  have HB1 := Lib.hid hb1
  have HS1 := Lib.hid (s.on hb1)
  have HS := Lib.hid s
  have HW1 := Lib.hid hw1.symm
  have HM := Lib.hid hM
  obtain ⟨c0, c1, c2, c3, c4, c5, c6, c7, c8, c9⟩ := hf1
  clear hE hA hb1 hw1 s hl hM
  unfold frV at HPut
  unfold frV
  simp only [frCs] at HW1
  go_enter Tryd.func59, Tryd.ntmps59
  cases hck : checkF f with
  | false =>
    have HPut2 := Lib.hid (HPut.out.mono fun e w' h => h.er hck)
    have HWf := Lib.hid (show m.wire ++ wireF f = m.wire by simp [wireF, hck])
    clear hck HPut
    go_wp2_with (rw [HW1.out])
    refine HPut2.out.mono ?_
    rintro e w2 ⟨rfl, hb2⟩
    have HB2 := Lib.hid (below_on HB1.out hb2)
    clear hb2
    unfold errV
    go_wp2_with fail
    go_end0
    exact ⟨rfl, by rw [HWf.out]; exact LinkT.below HS.out HB2.out⟩
  | true =>
    have HWf := Lib.hid (show wireF f = putF f from wireF_ok hck)
    have hsz := sizeF_in hck
    unfold sizeF at hsz
    have HPut2 := Lib.hid (HPut.out.mono fun e w' h => h.ok hck)
    clear hck HPut
    go_wp2_with (rw [HW1.out])
    refine HPut2.out.mono ?_
    rintro e w2 ⟨hb2, PA, cp, rfl, hcp, hop⟩
    have s2 := HS1.out.on hb2
    have HS2 := Lib.hid s2
    have HB2 := Lib.hid (below_on HB1.out hb2)
    obtain ⟨Aw, cw, rfl, hcw⟩ := s2.shape
    have hr2 := (RdC.of_own hop).mono (ok' := (· < w2.heap.size)) (fun k hk => hk.2)
    have HR2 := Lib.hid hr2
    obtain ⟨px, hpx⟩ : ∃ p, p = putF f := ⟨_, rfl⟩
    rw [← hpx] at HR2 hsz HWf
    rw [← hpx]
    have g2 := s2.c2
    have gf := s2.fz 2
    have hM2 : ∀ k, w2.heap.size ≤ k → M k := fun k hk => HM.out k (Nat.le_trans HB2.out.size hk)
    have HM2 := Lib.hid hM2
    obtain ⟨i0, hi, hz0, hz1, hz2⟩ := info_parts infoU8
    clear hb2 hop hr2 s2 hpx hM2 c0 c1 c2 c3 c4 c5 c6 c7 c8 c9
    go_wp2_with (at_builtin; refine wpList_appS (ok := (· < w2.heap.size)) _ 0 (.tmp 17) (.tmp 18) 31 5 i0 (.int .u8 0) 1 1 rfl (by rfl) Tryd.underlying31 hi hz0 hz1 hz2 rfl (by omega) (by omega) _ m.wire.length (bvs m.wire) (by rfl) HS2.out.wire _ px.length _ (bvs px) (by rfl) (by simp) HR2.out (bvs_one _) (by omega) (by omega) ?_; intro v3 w3 hown3 hg3; obtain ⟨A3, c3, rfl, hc3, _⟩ := own_slice hown3; have h3L : w3.heap[L]? = _ := (hg3.by_.block L HS2.out.lt (fun e => (HS2.out.wM L e.symm).2.1 rfl)).trans HS2.out.head; have k3c := (cell_of_row _ _ 2 _ _ _ h3L).trans (show _ = some (Value.slice Aw m.wire.length cw) from rfl); have k3f := frozen_of_row w3 L 2 _ _ h3L)
    go_end0
    exact ⟨rfl, by rw [HWf.out]; exact LinkT.trans (Chg.of_below HB2.out) (fun k hk => .inl hk) (HS2.out.wired hown3 hg3 HM2.out)⟩
end Go.Proofs.YtipgimmgjdgdeaaDoor
