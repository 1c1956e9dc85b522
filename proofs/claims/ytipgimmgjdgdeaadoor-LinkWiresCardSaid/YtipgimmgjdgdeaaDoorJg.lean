/- Walk of package replay: Ack. -/
import Derived.Test.YtipgimmgjdgdeaaDoorJf
set_option linter.unusedVariables false
set_option linter.unusedSimpArgs false
set_option linter.unnecessarySimpa false
namespace Go.Proofs.YtipgimmgjdgdeaaDoor
open Go.RowKit
attribute [local go_sem] run_store_flt

/-- What Ack answers; what the row is behind it. -/
def AckP (es : Er → Addr) (M : Nat → Prop) (w : World) (G : Nat) (v : Value) (o : Ro) (n : Int) (e : Ending) (w' : World) : Prop :=
  (0 ≤ n ∧ n ≤ (o.last : Int) → e = .returned .nilIface ∧ Chg (· = G) w w' ∧ ∃ v', OutAt M w' G v' (o.ack n.toNat) ∧ (cutB v' = cutB v ∨ cutB v' = none)) ∧
  (¬ (0 ≤ n ∧ n ≤ (o.last : Int)) → e = .returned (errV (es .gap)) ∧ Below w.heap.size w w')
/-- So many frames less. -/
def Ro.cut (o : Ro) (j : Nat) : Ro := ⟨o.held.drop j, o.acked + j⟩
theorem Ro.cut_zero (o : Ro) : o.cut 0 = o := by simp [Ro.cut]
theorem Ro.ack_cut (o : Ro) {n : Nat} : o.ack n = o.cut (n - o.acked) := by
  unfold Ro.ack Ro.cut
  congr 1
  omega
theorem Ro.cut_cut (o : Ro) (j : Nat) : (o.cut j).cut 1 = o.cut (j + 1) := by
  unfold Ro.cut
  congr 1
  simp
def ackedOf (w : World) (G : Nat) : Nat := match w.cell? ⟨G, 1, none⟩ with
  | some (.int _ z) => z.toNat
  | _ => 0
theorem OutAt.ackedOf {M : Nat → Prop} {w : World} {G : Nat} {v : Value} {o : Ro} (s : OutAt M w G v o) : ackedOf w G = o.acked := by
  unfold Go.Proofs.YtipgimmgjdgdeaaDoor.ackedOf
  rw [s.c1]
  simp
theorem OutAt.kt0 {M : Nat → Prop} {w : World} {G : Nat} {A : Option Addr} {n c : Nat} {o : Ro} (s : OutAt M w G (.slice A n c) o) {f : Fr} {l : List Fr} (h : o.held = f :: l) : ∃ g off, A = some ⟨g, off, none⟩ ∧ g < w.heap.size ∧ n = o.held.length ∧ n ≤ c ∧ w.cell? ⟨g, off + 10, none⟩ = some (.int .i64 (sizeF f : Nat)) := by
  obtain ⟨cs, ⟨A', cap, e, h1, h2, h3, hx⟩, hk⟩ := s.rows
  injection e with e1 e2 e3
  subst e1 e2 e3
  have hpos : 0 < o.held.length := by rw [h]; simp
  obtain ⟨g, off, rfl, k1, k2, k3, k4⟩ := hx (by omega)
  refine ⟨g, off, rfl, k2, rfl, h1, ?_⟩
  rw [k3 10 (by omega)]
  obtain ⟨A, c, _, hg⟩ := hk.get 0 hpos
  have := hg 10 (by omega)
  rw [Nat.zero_mul, Nat.zero_add] at this
  rw [this]
  simp only [h, List.getElem_cons_zero]
  rfl
/-- The row, one frame cut off. -/
theorem OutAt.cut1 {M : Nat → Prop} {w w' : World} {G g off n c : Nat} {o : Ro} {v' : Value} (s : OutAt M w G (.slice (some ⟨g, off, none⟩) n c) o) {f : Fr} {l : List Fr} (h : o.held = f :: l) (hv : v' = .slice (if c = 1 then some ⟨g, off, none⟩ else some ⟨g, off + 11, none⟩) (n - 1) (c - 1))
    (hs : w'.heap.size = w.heap.size) (hb : ∀ k, k ≠ G → w'.heap[k]? = w.heap[k]?) (hh : w'.heap[G]? = some (.cells #[v', .int .i64 ((o.acked : Int) + 1), .int .i64 ((o.bytes : Int) - (sizeF f : Int))] 88 (0, 0))) :
    OutAt M w' G v' (o.cut 1) ∧ (cutB v' = cutB (.slice (some ⟨g, off, none⟩) n c) ∨ cutB v' = none) := by
  obtain ⟨cs, hc, hk⟩ := s.rows
  have hn : n = o.held.length := by
    obtain ⟨A', cap, e, _⟩ := hc
    injection e
  subst hn
  have hpos : 1 ≤ o.held.length := by rw [h]; simp
  have hd := hc.drop 1 hpos (decide (c ≤ 1)) rfl
  have hcp : 1 ≤ c := by
    obtain ⟨A', cap, e, h1, _⟩ := hc
    injection e with _ _ e3
    omega
  have hve : v' = .slice (if decide (c ≤ 1) = true then some ⟨g, off, none⟩ else (some ⟨g, off, none⟩ : Option Addr).map (·.add (1 * 11))) (o.held.length - 1) (c - 1) := by
    rw [hv]
    by_cases h1 : c = 1
    · rw [if_pos h1, if_pos (by simp; omega)]
    · rw [if_neg h1, if_neg (by simp; omega)]
      simp [Addr.add_lit]
  rw [← hve, Nat.one_mul] at hd
  have hcb : cutB v' = cutB (.slice (some ⟨g, off, none⟩) o.held.length c) ∨ cutB v' = none := by
    rw [hv]
    by_cases h1 : c = 1
    · subst h1; exact .inr cutB_zero
    · refine .inl ?_
      rw [if_neg h1, cutB_pos (by omega), cutB_pos (by omega)]
  have hlen : (o.cut 1).held.length = o.held.length - 1 := by simp [Ro.cut]
  have hne : cutB v' ≠ some G := by
    rcases hcb with e | e
    · rw [e]; exact s.ne
    · rw [e]; simp
  refine ⟨⟨?_, ⟨cs.drop 11, ?_, ?_⟩, s.le, hne⟩, hcb⟩
  · rw [hh]
    have h1 : (((o.cut 1).bytes : Nat) : Int) = (o.bytes : Int) - (sizeF f : Int) := by
      have h2 := Ro.ack_one h
      have h3 : (o.cut 1).bytes = sizes l := by unfold Ro.cut Ro.bytes; rw [h]; rfl
      omega
    rw [h1]
    rfl
  · rw [hlen]
    exact hd.move (by omega) (fun b e => hb b (fun e2 => hne (by rw [e, e2])))
  · have hk2 := hk.drop 1
    rw [Nat.one_mul] at hk2
    refine (hk2.move (fun k hk => hb k (fun e => hk.2.2 (.inl e)))).mono (fun k hk => ⟨hk.1, by omega, ?_⟩)
    rintro (e | e)
    · exact hk.2.2 (.inl e)
    · rcases hcb with e2 | e2
      · exact hk.2.2 (.inr (by rw [e, e2]))
      · rw [e2] at e; cases e
set_option maxRecDepth 8000 in
set_option maxHeartbeats 6400000 in
theorem ack_any (es : Er → Addr) (M : Nat → Prop) (w : World) (G : Nat) (v : Value) (o : Ro) (n : Int) (hE : REnv w es) (s : OutAt M w G v o) (hf : o.fine) :
    Calls Tryd.prog 20 #[.pointer (some ⟨G, 0, none⟩), .int .i64 n] w (AckP es M w G v o n) := by
  have HLs := Lib.hid (last_any M w G v o s hf)
  have HE := Lib.hid hE
  have HS := Lib.hid s
  have HFn := Lib.hid hf
  have hll := hf.last
  clear hE s hf
  go_enter Tryd.func20, Tryd.ntmps20
  by_cases h0 : n < 0
  · have he := HE.out.gap.at
    unfold errV at he
    have hno : ¬ (0 ≤ n ∧ n ≤ (o.last : Int)) := by omega
    go_wp2_with fail
    go_ret
    exact ⟨fun h => absurd h hno, fun _ => ⟨rfl, Below.refl _ _⟩⟩
  · by_cases hgt : (o.last : Int) < n
    · have hno : ¬ (0 ≤ n ∧ n ≤ (o.last : Int)) := by omega
      go_wp2_with fail
      refine HLs.out.mono ?_
      rintro e w1 ⟨rfl, n1, hw1⟩
      have hb1 : Below w.heap.size w w1 := by rw [hw1]; exact below_drewN (Below.refl _ _) _
      have he := ((HE.out.step hb1).gap).at
      unfold errV at he
      clear hw1
      go_wp2_with fail
      go_ret
      exact ⟨fun h => absurd h hno, fun _ => ⟨rfl, hb1⟩⟩
    · have hyes : 0 ≤ n ∧ n ≤ (o.last : Int) := by omega
      go_wp2_with fail
      refine HLs.out.mono ?_
      rintro e w1 ⟨rfl, n1, hw1⟩
      have hb1 : Below w.heap.size w w1 := by rw [hw1]; exact below_drewN (Below.refl _ _) _
      have HB1 := Lib.hid hb1
      have HS1 := Lib.hid (HS.out.on hb1)
      clear hw1 hb1
      go_wp2_with fail
      go_loopw [] (fun wr => ∃ (j : Nat) (v' : Value), j ≤ n.toNat - o.acked ∧ OutAt M wr G v' (o.cut j) ∧ Chg (· = G) w wr ∧ (cutB v' = cutB v ∨ cutB v' = none)) (fun wr => n.toNat - ackedOf wr G)
      case atStart => exact ⟨0, v, Nat.zero_le _, by rw [Ro.cut_zero]; exact HS1.out, Chg.of_below HB1.out, .inl rfl⟩
      case round =>
        obtain ⟨j, v', hj, hs, hch, hcb⟩ := hrel
        have hsa := hs.ackedOf
        have hca : (o.cut j).acked = o.acked + j := rfl
        have g0 := hs.c0
        have g1 := hs.c1
        have g2 := hs.c2
        have gf := hs.fz
        have hGr := hs.lt
        rw [hca] at g1
        by_cases hlt : o.acked + j < n.toNat
        · have k1 : (o.acked : Int) + (j : Int) < n := by omega
          have hjl : j < o.held.length := by unfold Ro.last at hyes; omega
          obtain ⟨f, l, hfl⟩ : ∃ f l, (o.cut j).held = f :: l := by
            cases hh : (o.cut j).held with
            | nil => have h1 : (o.held.drop j).length = 0 := by have h2 : o.held.drop j = [] := hh; rw [h2]; rfl
                     rw [List.length_drop] at h1
                     omega
            | cons f l => exact ⟨f, l, rfl⟩
          obtain ⟨A, cc, rfl, _, _⟩ := hs.shape
          obtain ⟨g, off, rfl, hg, hnl, hnc, hsz⟩ := hs.kt0 hfl
          have hbs := Ro.ack_one hfl
          have hlen : 0 < (o.cut j).held.length := by rw [hfl]; simp
          have hroom : (o.cut j).bytes ≤ 8192 := Nat.le_trans (sizes_drop _ _) HFn.out.room
          have k2 : (0 : Int) < ((o.cut j).held.length : Int) := by omega
          have j1 : IntKind.i64.wrap (((o.cut j).bytes : Int) - (sizeF f : Int)) = ((o.cut j).bytes : Int) - (sizeF f : Int) := IntWalk.i64_in _ (by omega)
          have j2 : IntKind.i64.wrap ((o.acked : Int) + (j : Int) + 1) = (o.acked : Int) + (j : Int) + 1 := IntWalk.i64_in _ (by unfold Ro.last at hll; omega)
          have HSj := Lib.hid hs
          have HChj := Lib.hid hch
          have HCb := Lib.hid hcb
          have HHd := Lib.hid hs.head
          have hgne : g ≠ G := fun e => hs.ne (by rw [cutB_pos (by omega), e])
          have HFl := Lib.hid hfl
          generalize hmm : (o.cut j).held.length = mm at *
          have HMm := Lib.hid hmm
          clear hs hch hcb hsa hfl hbs hmm
          go_wp2_with fail
          refine region_tail 11 (by kernel_rfl) (by kernel_rfl) ?_
          simp only [List.take_succ_cons, List.take_zero, List.drop_succ_cons, List.drop_zero]
          repeat still_step
          refine wpStill_nil ?_
          go_wp2_with fail
          obtain ⟨w2, hw2⟩ : ∃ W, W = (((wr.setCell ⟨G, 2, none⟩ (.int .i64 (((o.cut j).bytes : Int) - (sizeF f : Int)))).setCell ⟨G, 0, none⟩ (.slice (if cc = 1 then some ⟨g, off, none⟩ else some ⟨g, off + 11, none⟩) (mm - 1) (cc - 1))).setCell ⟨G, 1, none⟩ (.int .i64 ((o.acked : Int) + (j : Int) + 1))).drew := ⟨_, rfl⟩
          have hs2 : w2.heap.size = wr.heap.size := by rw [hw2]; exact (World.size_setCell _ _ _).trans ((World.size_setCell _ _ _).trans (World.size_setCell _ _ _))
          have ho2 : ∀ k, k ≠ G → w2.heap[k]? = wr.heap[k]? := fun k hk => by rw [hw2]; exact (heap_setCell_other _ _ _ _ hk).trans ((heap_setCell_other _ _ _ _ hk).trans (heap_setCell_other _ _ _ _ hk))
          have hh2 : w2.heap[G]? = some (.cells #[.slice (if cc = 1 then some ⟨g, off, none⟩ else some ⟨g, off + 11, none⟩) (mm - 1) (cc - 1), .int .i64 ((o.acked : Int) + (j : Int) + 1), .int .i64 (((o.cut j).bytes : Int) - (sizeF f : Int))] 88 (0, 0)) := by
            rw [hw2]
            exact heap_setCell_same _ _ 1 _ _ _ (heap_setCell_same _ _ 0 _ _ _ (heap_setCell_same _ _ 2 _ _ _ HHd.out))
          have hch2 : Chg (· = G) w w2 := by
            rw [hw2]
            have h := ((HChj.out.setCell (p := ⟨G, 2, none⟩) (.int .i64 (((o.cut j).bytes : Int) - (sizeF f : Int))) rfl).setCell (p := ⟨G, 0, none⟩) (.slice (if cc = 1 then some ⟨g, off, none⟩ else some ⟨g, off + 11, none⟩) (mm - 1) (cc - 1)) rfl).setCell (p := ⟨G, 1, none⟩) (.int .i64 ((o.acked : Int) + (j : Int) + 1)) rfl
            exact ⟨h.os, h.tape, h.output, h.size, h.block⟩
          have hnew := HSj.out.cut1 HFl.out rfl hs2 ho2 hh2
          rw [Ro.cut_cut] at hnew
          have hak := hnew.1.ackedOf
          rw [← hw2]
          refine ⟨⟨j + 1, _, by omega, hnew.1, hch2, ?_⟩, ?_⟩
          · rcases hnew.2 with e | e
            · rcases HCb.out with e2 | e2
              · exact .inl (e.trans e2)
              · exact .inr (e.trans e2)
            · exact .inr e
          · rw [hak, HSj.out.ackedOf]
            show n.toNat - (o.acked + (j + 1)) < n.toNat - (o.acked + j)
            omega
        · have k1 : ¬ (o.acked : Int) + (j : Int) < n := by omega
          have hS := Lib.hid hs
          have HChj := Lib.hid hch
          have HCb := Lib.hid hcb
          clear hs hch hcb
          go_wp2_with fail
          go_ret
          refine ⟨fun _ => ⟨rfl, HChj.out, v', ?_, HCb.out⟩, fun h => absurd hyes h⟩
          rw [Ro.ack_cut, show n.toNat - o.acked = j by omega]
          exact hS.out
end Go.Proofs.YtipgimmgjdgdeaaDoor
