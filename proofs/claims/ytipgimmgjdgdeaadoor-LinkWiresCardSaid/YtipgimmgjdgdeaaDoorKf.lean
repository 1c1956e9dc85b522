/- Walks of package link: Wire, Tell. -/
import Derived.Test.YtipgimmgjdgdeaaDoorKe
import Derived.Deep.CutBlock
set_option linter.unusedVariables false
set_option linter.unusedSimpArgs false
set_option linter.unnecessarySimpa false
namespace Go.Proofs.YtipgimmgjdgdeaaDoor
open Go.RowKit
attribute [local go_sem] run_store_flt

def WireP (M : Nat → Prop) (w : World) (L G I : Nat) (v vw : Value) (m : Lk) (k : Nat) (e : Ending) (w' : World) : Prop :=
  ∃ A c v' vw', e = .returned (.slice A k c) ∧ LinkAt M w' L G I v' vw' { m with wire := m.wire.drop k } ∧ Chg (LinkB L G I v vw) w w' ∧ (∀ k, LinkB L G I v' vw' k → LinkB L G I v vw k ∨ w.heap.size ≤ k) ∧ RdC (fun j => w.heap.size ≤ j ∧ j < w'.heap.size ∧ ¬ LinkB L G I v' vw' j) w' A (bvs (m.wire.take k)) ∧ k ≤ c
set_option maxRecDepth 8000 in
set_option maxHeartbeats 3200000 in
theorem wire_any (M : Nat → Prop) (w : World) (L G I : Nat) (v vw : Value) (m : Lk) (n : Int) (k : Nat) (hk : (k : Int) = min (max n 0) (m.wire.length : Int)) (s : LinkAt M w L G I v vw m) (hwl : m.wire.length ≤ 1000000000000) (hM : ∀ k, w.heap.size ≤ k → M k) :
    Calls Tryd.prog 44 #[.pointer (some ⟨L, 0, none⟩), .int .i64 n] w (WireP M w L G I v vw m k) := by
  have HS := Lib.hid s
  have HM := Lib.hid hM
  have g2 := s.c2
  have gf := s.fz
  obtain ⟨Aw, cw, rfl, hcw⟩ := s.shape
  have hkl : k ≤ m.wire.length := by omega
  have HK := Lib.hid hk
  clear s hM
  go_enter Tryd.func44, Tryd.ntmps44
  go_upto_region 2 with fail
  have hm : (if (m.wire.length : Int) < if n < 0 then 0 else n then (m.wire.length : Int) else if n < 0 then 0 else n) = (k : Int) := by
    rw [HK.out]
    split <;> split <;> omega
  rw [hm]
  generalize (if n < 0 then (0 : Int) else n) = mx at hm ⊢
  have htk : (m.wire.take k).length = k := by rw [List.length_take]; omega
  have hdk : (m.wire.drop k).length = m.wire.length - k := List.length_drop
  have hrd := (RdC.of_own HS.out.wire).mono (ok' := (· < w.heap.size)) (fun j hj => hj.2)
  have hcl1 := clone_any w Aw k cw (m.wire.take k) htk.symm (by
    have h1 := hrd.take k
    have h2 : (bvs m.wire).take k = bvs (m.wire.take k) := by simp [bvs, List.map_take]
    rwa [h2] at h1) (by omega)
  unfold CloneP at hcl1
  rw [htk] at hcl1
  have HCl1 := Lib.hid hcl1
  have i1 : (k : Int) ≤ (m.wire.length : Int) := by omega
  have i2 : (k : Int) ≤ (cw : Int) := by omega
  have i3 : (0 : Int) ≤ (k : Int) := by omega
  have i4 : (m.wire.length : Int) ≤ (cw : Int) := by omega
  have HDk := Lib.hid hdk
  clear hcl1 hrd hm htk hdk hk
  go_wp2_with fail
  refine HCl1.out.mono ?_
  rintro e w1 ⟨hb1, A1, c1, rfl, ho1⟩
  have s1 := HS.out.on hb1
  have hz1 := hb1.size
  have hrd1 := ((RdC.of_own s1.wire).mono (ok' := (· < w1.heap.size)) (fun j hj => hj.2)).dropIf cw k hcw
  have hcl2 : ∀ (A2 : Option Addr) (c2 : Nat), RdC (· < w1.heap.size) w1 A2 (bvs (m.wire.drop k)) → Calls Tryd.prog 60 #[.slice A2 (m.wire.length - k) c2] w1 (CloneP w1 (m.wire.drop k)) := fun A2 c2 h => clone_any w1 A2 (m.wire.length - k) c2 (m.wire.drop k) HDk.out.symm h (by rw [HDk.out]; omega)
  have hkc1 : k ≤ c1 := by
    obtain ⟨_, _, e1, hkc, _⟩ := own_slice ho1
    injection e1 with _ _ e1
    omega
  have HCl2 := Lib.hid hcl2
  have HS1 := Lib.hid s1
  have HB1 := Lib.hid hb1
  have HO1 := Lib.hid (RdC.of_own ho1)
  clear g2 gf
  have g2 := s1.c2
  have gf := s1.fz
  have hl1 := s1.lt
  clear hcl2 s1 hb1 ho1
  by_cases hq : cw = k
  all_goals
    first | rw [if_pos hq] at hrd1 | rw [if_neg hq] at hrd1
    have HRd1 := Lib.hid hrd1
    clear hrd1
    go_wp2_with fail
    refine (HCl2.out _ _ HRd1.out).mono ?_
    rintro e w2 ⟨hb2, A2, c2, rfl, ho2⟩
    rw [HDk.out] at ho2 ⊢
    have s2 := HS1.out.on hb2
    have hL : w2.heap[L]? = _ := s2.head
    have h3L : (w2.setCell ⟨L, 2, none⟩ (.slice A2 (m.wire.length - k) c2)).heap[L]? = _ := heap_setCell_same _ _ 2 _ _ _ hL
    have hlt2 : ∀ j, (Value.slice A2 (m.wire.length - k) c2).ownBlock = some j → w1.heap.size ≤ j := fun j hj => (ho2.lt j hj).1
    have hX := rewireX (m' := { m with wire := m.wire.drop k }) HS1.out (((Chg.of_below hb2).setCell (.slice A2 (m.wire.length - k) c2) (.inl rfl))) (h3L.trans rfl) rfl rfl (by
      show World.ownsRow _ 0 _ 1 _ (m.wire.drop k).length _
      rw [HDk.out]
      exact own_of_blockL (own_lower ho2 (Nat.zero_le _)) (fun j hj => heap_setCell_other _ _ _ _ (fun e => by have := hlt2 j hj; have h5 : j = L := e; omega))) (fun j hj => HM.out j (by omega)) (fun j hj => .inr (hlt2 j hj))
    have HX := Lib.hid hX
    have HO3 := Lib.hid (HO1.out.move (w' := w2.setCell ⟨L, 2, none⟩ (.slice A2 (m.wire.length - k) c2)) (fun j hj => (heap_setCell_other _ _ _ _ (fun e => by have h5 : j = L := e; have := HS.out.lt; omega)).trans (hb2.block j hj.2)))
    have hz2 := hb2.size
    have hLt2 := Lib.hid hlt2
    have g5 := s2.c2
    have gz := s2.fz
    have hl2 := s2.lt
    clear hb2 ho2 s2 hL h3L hlt2 hX g2 gf
    go_wp2_with fail
    go_ret
    refine ⟨A1, c1, v, .slice A2 (m.wire.length - k) c2, rfl, HX.out.1, (Chg.of_below HB1.out).trans HX.out.2.1 (fun i _ e => e), fun j hj => ?_, HO3.out.mono (fun j hj => ⟨hj.1, by rw [World.size_setCell]; omega, fun e => ?_⟩), hkc1⟩
    · rcases HX.out.2.2 j hj with h | h
      · exact .inl h
      · exact .inr (by omega)
    · have hS := HS.out
      rcases e with e | e | e | e
      · have := hS.lt; omega
      · have := hS.ltI; omega
      · rcases e with e | e
        · have := hS.ltG; omega
        · have := (hS.out.ltB j e.symm).2; omega
      · have := hLt2.out j e.symm; omega
set_option maxHeartbeats 800000 in
theorem got_same (w : World) (I n : Nat) (s : InAt w I n) :
    Calls Tryd.prog 18 #[.pointer (some ⟨I, 0, none⟩)] w (fun e w' => e = .returned (.int .i64 (n : Nat)) ∧ w' = w) := by
  have g1 := s.c0
  clear s
  go_enter Tryd.func18, Tryd.ntmps18
  go_wp2_with fail
  go_ret
  exact ⟨rfl, rfl⟩
theorem Lk.tell_no (m : Lk) (h : ¬ (m.up = true ∧ m.told < m.got)) : m.tell = m := by unfold Lk.tell; rw [if_neg h]
theorem Lk.tell_yes (m : Lk) (h1 : m.up = true) (h2 : m.told < m.got) : m.tell = { m with told := m.got, wire := m.wire ++ wireF (ackOf m.got) } := by unfold Lk.tell; rw [if_pos ⟨h1, h2⟩]
theorem LinkAt.retold {M : Nat → Prop} {w : World} {L G I : Nat} {v vw : Value} {m : Lk} (s : LinkAt M w L G I v vw m) : LinkAt M (w.setCell ⟨L, 4, none⟩ (.int .i64 (m.got : Nat))) L G I v vw { m with told := m.got } := by
  have h1 : (w.setCell ⟨L, 4, none⟩ (.int .i64 (m.got : Nat))).heap[L]? = _ := heap_setCell_same _ _ 4 _ _ _ s.head
  exact s.cells ((Chg.refl _ w).setCell _ rfl) (h1.trans rfl) rfl rfl rfl
set_option maxRecDepth 8000 in
set_option maxHeartbeats 3200000 in
theorem tell_any (es : Er → Addr) (M : Nat → Prop) (w : World) (L G I : Nat) (v vw : Value) (m : Lk) (w0 : World) (hE0 : REnv w0 es) (h0 : Below w0.heap.size w0 w) (hMb : ∀ k, M k → w0.heap.size ≤ k) (s : LinkAt M w L G I v vw m) (hf : m.fine) (hM : ∀ k, w.heap.size ≤ k → M k) :
    Calls Tryd.prog 40 #[.pointer (some ⟨L, 0, none⟩)] w (WriteP M w L G I v vw m.tell) := by
  have HE0 := Lib.hid hE0
  have H0 := Lib.hid h0
  have HMb := Lib.hid hMb
  have HS := Lib.hid s
  have HFn := Lib.hid hf
  have HM := Lib.hid hM
  have g1 := s.c1
  have g3 := s.c3
  have g4 := s.c4
  clear hE0 h0 hMb s hf hM
  go_enter Tryd.func40, Tryd.ntmps40
  cases hup : m.up with
  | false =>
    rw [hup] at g3
    have HT := Lib.hid (Lk.tell_no m (by rw [hup]; simp))
    clear hup
    go_wp2_with fail
    go_quiet (fail)
    go_wp2_with fail
    go_end0
    exact ⟨rfl, by rw [HT.out]; exact LinkT.below HS.out (below_drewN (Below.refl _ _) _)⟩
  | true =>
    rw [hup] at g3
    have HGo := Lib.hid (fun W (h : Below w.heap.size w W) => got_same W I m.got (HS.out.on h).inn)
    by_cases hlt : m.told < m.got
    · have k1 : (m.told : Int) < (m.got : Int) := by omega
      have HT := Lib.hid (Lk.tell_yes m hup hlt)
      clear hup hlt
      go_wp2_with fail
      go_quiet (exact Calls.quiet_of_same (HGo.out _ (below_drewN (Below.refl _ _) _)))
      obtain ⟨w1, hw1⟩ : ∃ W, W = w.drewN nq := ⟨_, rfl⟩
      have hb1 : Below w.heap.size w w1 := by rw [hw1]; exact below_drewN (Below.refl _ _) _
      have s1 := HS.out.on hb1
      rw [← hw1]
      have HB1 := Lib.hid hb1
      have HS1 := Lib.hid s1
      have HGo1 := Lib.hid (HGo.out w1 hb1)
      clear g1 g3 g4 hw1
      have g1 := s1.c1
      have g3 := s1.c3
      have g4 := s1.c4
      have gf := s1.fz
      have hl1 := s1.lt
      obtain ⟨w2, hw2⟩ : ∃ W, W = w1.setCell ⟨L, 4, none⟩ (.int .i64 (m.got : Nat)) := ⟨_, rfl⟩
      have s2 : LinkAt M w2 L G I v vw { m with told := m.got } := by rw [hw2]; exact s1.retold
      have hch2 : Chg (LinkB L G I v vw) w w2 := by rw [hw2]; exact (Chg.of_below hb1).setCell _ (.inl rfl)
      have hz2 : w2.heap.size = w1.heap.size := by rw [hw2, World.size_setCell]
      have hz1 := hb1.size
      have hwr := write_any es M w2 L G I v vw { m with told := m.got } (ackOf m.got) none 0 (HE0.out.step (HS.out.base hch2 H0.out HMb.out)) s2 ⟨by show 0 ≤ _; omega, by show 0 ≤ _; omega, by show 0 ≤ _; omega⟩ (RdC.nil _ _ _) (fun k hk => HM.out k (by omega)) HFn.out.wire
      have HWr := Lib.hid (show Calls Tryd.prog 59 #[.pointer (some ⟨L, 0, none⟩), .agg #[.int .i64 6, .int .i64 0, .int .i64 (m.got : Nat), .int .i64 0, .int .i64 0, .int .i64 0, .string ⟨#[]⟩, .string ⟨#[]⟩, .float .f64 0, .slice none 0 0]] w2 _ from hwr)
      have g5 := s2.c4
      have HCh2 := Lib.hid hch2
      have HW2 := Lib.hid hw2.symm
      clear hb1 s1 s2 hch2 hwr hw2
      go_wp2_with fail
      refine HGo1.out.mono ?_
      rintro e w3 ⟨rfl, rfl⟩
      go_wp2_with (rw [HW2.out])
      refine HWr.out.mono ?_
      rintro e w4 ⟨rfl, ht⟩
      go_wp2_with fail
      go_end0
      exact ⟨rfl, by rw [HT.out]; exact LinkT.trans HCh2.out (fun k hk => .inl hk) ht⟩
    · have k1 : ¬ (m.told : Int) < (m.got : Int) := by omega
      have HT := Lib.hid (Lk.tell_no m (fun e => hlt e.2))
      clear hup hlt
      go_wp2_with fail
      go_quiet (exact Calls.quiet_of_same (HGo.out _ (below_drewN (Below.refl _ _) _)))
      go_wp2_with fail
      go_end0
      exact ⟨rfl, by rw [HT.out]; exact LinkT.below HS.out (below_drewN (Below.refl _ _) _)⟩
end Go.Proofs.YtipgimmgjdgdeaaDoor
