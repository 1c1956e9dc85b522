/- Walks of package link: write. -/
import Derived.Test.YtipgimmgjdgdeaaDoorKb
set_option linter.unusedVariables false
set_option linter.unusedSimpArgs false
set_option linter.unnecessarySimpa false
namespace Go.Proofs.YtipgimmgjdgdeaaDoor
open Go.RowKit
attribute [local go_sem] run_store_flt

/-- A call that answers nothing. -/
def WriteP (M : Nat → Prop) (w : World) (L G I : Nat) (v vw : Value) (m' : Lk) (e : Ending) (w' : World) : Prop := e = .returned (.tuple #[]) ∧ LinkT M w L G I v vw m' w'
theorem LinkAt.wired {M : Nat → Prop} {w w3 : World} {L G I : Nat} {v vw v3 : Value} {m : Lk} {x : Bs} (s : LinkAt M w L G I v vw m) (hown : w3.ownsRow 0 5 1 v3 (m.wire.length + x.length) (bvs m.wire ++ bvs x)) (hg : Grew w vw w3 v3) (hM : ∀ k, w.heap.size ≤ k → M k) :
    LinkT M w L G I v vw { m with wire := m.wire ++ x } (w3.setCell ⟨L, 2, none⟩ v3) := by
  have hL : w3.heap[L]? = _ := (hg.by_.block L s.lt (fun e => (s.wM L e.symm).2.1 rfl)).trans s.head
  have hc : Chg (fun k => k = L ∨ some k = vw.ownBlock) w (w3.setCell ⟨L, 2, none⟩ v3) := (Chg.of_grown hg.by_ (fun i hi => .inr hi)).setCell _ (.inl rfl)
  have hne : ∀ k, v3.ownBlock = some k → k ≠ L := fun k hk e => by
    subst e
    exact hg.ne (fun e => (s.wM _ e.symm).2.1 rfl) s.lt hk.symm
  have hat : ∀ k, v3.ownBlock = some k → vw.ownBlock = some k ∨ w.heap.size ≤ k := fun k hk => by
    rcases hg.at_ with h | ⟨b, h, hb⟩
    · exact .inl (h ▸ hk)
    · rw [h] at hk; injection hk with hk; exact .inr (by omega)
  refine ⟨v, v3, s.rewire hc ((heap_setCell_same _ _ 2 _ _ _ hL).trans rfl) rfl rfl ?_ hM hat, hc.mono (fun i hi => ?_), fun k hk => ?_⟩
  · show World.ownsRow _ 0 _ 1 v3 (m.wire ++ x).length (bvs (m.wire ++ x))
    rw [bvs_append, List.length_append]
    exact own_of_blockL hown (fun k hk => heap_setCell_other _ _ _ _ (hne k hk))
  · rcases hi with h | h
    · exact .inl h
    · exact .inr (.inr (.inr h))
  · rcases hk with h | h | h | h
    · exact .inl (.inl h)
    · exact .inl (.inr (.inl h))
    · exact .inl (.inr (.inr (.inl h)))
    · rcases hat k h.symm with h2 | h2
      · exact .inl (.inr (.inr (.inr h2.symm)))
      · exact .inr h2
set_option maxRecDepth 8000 in
set_option maxHeartbeats 3200000 in
theorem write_any (es : Er → Addr) (M : Nat → Prop) (w : World) (L G I : Nat) (v vw : Value) (m : Lk) (f : Fr) (A : Option Addr) (c : Nat) (hE : REnv w es) (s : LinkAt M w L G I v vw m) (hl : f.lens) (hA : RdC (· < w.heap.size) w A (bvs f.bytes)) (hM : ∀ k, w.heap.size ≤ k → M k) (hwl : m.wire.length ≤ 1000000000000) :
    Calls Tryd.prog 59 #[.pointer (some ⟨L, 0, none⟩), frV f A c] w (WriteP M w L G I v vw { m with wire := m.wire ++ wireF f }) := by
  obtain ⟨w1, hw1, hb1, hs1, hf1⟩ := box_world w f A c
  have HPut := Lib.hid (putF_any es f A c w1 ((hE.step hb1).fenv) hl (hA.step hb1))
  have HB1 := Lib.hid hb1
  have HS1 := Lib.hid (s.on hb1)
  have HS := Lib.hid s
  have HW1 := Lib.hid hw1.symm
  have HM := Lib.hid hM
  obtain ⟨c0, c1, c2, c3, c4, c5, c6, c7, c8, c9⟩ := hf1
  clear hE hA hb1 hw1 s hl hM
  unfold frV at HPut
  unfold frV
  simp only [frCs] at HW1
  go_enter Tryd.func59, Tryd.ntmps59
  cases hck : checkF f with
  | false =>
    have HPut2 := Lib.hid (HPut.out.mono fun e w' h => h.er hck)
    have HWf := Lib.hid (show m.wire ++ wireF f = m.wire by simp [wireF, hck])
    clear hck HPut
    go_wp2_with (rw [HW1.out])
    refine HPut2.out.mono ?_
    rintro e w2 ⟨rfl, hb2⟩
    have HB2 := Lib.hid (below_on HB1.out hb2)
    clear hb2
    unfold errV
    go_wp2_with fail
    go_end0
    exact ⟨rfl, by rw [HWf.out]; exact LinkT.below HS.out HB2.out⟩
  | true =>
    have HWf := Lib.hid (show wireF f = putF f from wireF_ok hck)
    have hsz := sizeF_in hck
    unfold sizeF at hsz
    have HPut2 := Lib.hid (HPut.out.mono fun e w' h => h.ok hck)
    clear hck HPut
    go_wp2_with (rw [HW1.out])
    refine HPut2.out.mono ?_
    rintro e w2 ⟨hb2, PA, cp, rfl, hcp, hop⟩
    have s2 := HS1.out.on hb2
    have HS2 := Lib.hid s2
    have HB2 := Lib.hid (below_on HB1.out hb2)
    obtain ⟨Aw, cw, rfl, hcw⟩ := s2.shape
    have hr2 := (RdC.of_own hop).mono (ok' := (· < w2.heap.size)) (fun k hk => hk.2)
    have HR2 := Lib.hid hr2
    obtain ⟨px, hpx⟩ : ∃ p, p = putF f := ⟨_, rfl⟩
    rw [← hpx] at HR2 hsz HWf
    rw [← hpx]
    have g2 := s2.c2
    have gf := s2.fz 2
    have hM2 : ∀ k, w2.heap.size ≤ k → M k := fun k hk => HM.out k (Nat.le_trans HB2.out.size hk)
    have HM2 := Lib.hid hM2
    obtain ⟨i0, hi, hz0, hz1, hz2⟩ := info_parts infoU8
    clear hb2 hop hr2 s2 hpx hM2 c0 c1 c2 c3 c4 c5 c6 c7 c8 c9
    go_wp2_with (at_builtin; refine wpList_appS (ok := (· < w2.heap.size)) _ 0 (.tmp 17) (.tmp 18) 31 5 i0 (.int .u8 0) 1 1 rfl (by rfl) Tryd.underlying31 hi hz0 hz1 hz2 rfl (by omega) (by omega) _ m.wire.length (bvs m.wire) (by rfl) HS2.out.wire _ px.length _ (bvs px) (by rfl) (by simp) HR2.out (bvs_one _) (by omega) (by omega) ?_; intro v3 w3 hown3 hg3; obtain ⟨A3, c3, rfl, hc3, _⟩ := own_slice hown3; have h3L : w3.heap[L]? = _ := (hg3.by_.block L HS2.out.lt (fun e => (HS2.out.wM L e.symm).2.1 rfl)).trans HS2.out.head; have k3c := (cell_of_row _ _ 2 _ _ _ h3L).trans (show _ = some (Value.slice Aw m.wire.length cw) from rfl); have k3f := frozen_of_row w3 L 2 _ _ h3L)
    go_end0
    exact ⟨rfl, by rw [HWf.out]; exact LinkT.trans (Chg.of_below HB2.out) (fun k hk => .inl hk) (HS2.out.wired hown3 hg3 HM2.out)⟩
end Go.Proofs.YtipgimmgjdgdeaaDoor
