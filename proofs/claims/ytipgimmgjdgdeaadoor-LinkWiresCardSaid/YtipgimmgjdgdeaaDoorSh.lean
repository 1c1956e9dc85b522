/- Frames in a row in memory: one of them; walk of the reference's SameList. -/
import Derived.Test.YtipgimmgjdgdeaaDoorSf
import Derived.Test.YtipgimmgjdgdeaaDoorVo
import Derived.StillTailTactics
set_option linter.unusedVariables false
set_option linter.unusedSimpArgs false
set_option linter.unnecessarySimpa false
namespace Go.Proofs.YtipgimmgjdgdeaaDoor
open Go.RowKit
attribute [local go_sem] run_store_flt

/-- A frame's ten cells at an address. -/
structure FrE (W : World) (a : Addr) (f : Fr) (A : Option Addr) (c : Nat) : Prop where
  c0 : W.cell? a = some (.int .i64 f.kind)
  c1 : W.cell? ⟨a.block, a.off + 1, none⟩ = some (.int .i64 f.seq)
  c2 : W.cell? ⟨a.block, a.off + 2, none⟩ = some (.int .i64 f.got)
  c3 : W.cell? ⟨a.block, a.off + 3, none⟩ = some (.int .i64 f.stream)
  c4 : W.cell? ⟨a.block, a.off + 4, none⟩ = some (.int .i64 f.amount)
  c5 : W.cell? ⟨a.block, a.off + 5, none⟩ = some (.int .i64 f.code)
  c6 : W.cell? ⟨a.block, a.off + 6, none⟩ = some (.string f.who)
  c7 : W.cell? ⟨a.block, a.off + 7, none⟩ = some (.string f.name)
  c8 : W.cell? ⟨a.block, a.off + 8, none⟩ = some (.float .f64 f.weight)
  c9 : W.cell? ⟨a.block, a.off + 9, none⟩ = some (.slice A f.bytes.length c)
theorem FrE.move {w w' : World} {a : Addr} {f : Fr} {A : Option Addr} {c : Nat} (h : FrE w a f A c) (hb : w'.heap[a.block]? = w.heap[a.block]?) : FrE w' a f A c := by
  have key : ∀ p : Addr, p.block = a.block → w'.cell? p = w.cell? p := fun p hp => World.cell?_of_block (by rw [hp]; exact hb)
  exact ⟨(key a rfl).trans h.c0, (key ⟨a.block, a.off + 1, none⟩ rfl).trans h.c1, (key ⟨a.block, a.off + 2, none⟩ rfl).trans h.c2, (key ⟨a.block, a.off + 3, none⟩ rfl).trans h.c3, (key ⟨a.block, a.off + 4, none⟩ rfl).trans h.c4, (key ⟨a.block, a.off + 5, none⟩ rfl).trans h.c5, (key ⟨a.block, a.off + 6, none⟩ rfl).trans h.c6, (key ⟨a.block, a.off + 7, none⟩ rfl).trans h.c7, (key ⟨a.block, a.off + 8, none⟩ rfl).trans h.c8, (key ⟨a.block, a.off + 9, none⟩ rfl).trans h.c9⟩
/-- Frame k of a row. -/
theorem FrsV.at {ok ok' : Nat → Prop} {w : World} {B : Option Addr} {fs : List Fr} {cs : List Value} (hB : RdC ok w B cs) (h : FrsV ok' w fs cs) (k : Nat) (hk : k < fs.length) :
    ∃ ad A c, B = some ad ∧ ok ad.block ∧ FrE w (ad.add (k * 10)) fs[k] A c ∧ RdC ok' w A (bvs fs[k].bytes) := by
  obtain ⟨A, c, hr, hg⟩ := h.get k hk
  have h0 : cs[k * 10]? = some (.int .i64 fs[k].kind) := hg 0 (by omega)
  obtain ⟨ad, e, hb, hc⟩ := hB (by intro e; rw [e] at h0; simp at h0)
  refine ⟨ad, A, c, e, hb, ⟨hc _ _ h0, ?_, ?_, ?_, ?_, ?_, ?_, ?_, ?_, ?_⟩, hr⟩
  · rw [← add_field _ _ _ (by omega)]; exact hc _ _ (hg 1 (by omega))
  · rw [← add_field _ _ _ (by omega)]; exact hc _ _ (hg 2 (by omega))
  · rw [← add_field _ _ _ (by omega)]; exact hc _ _ (hg 3 (by omega))
  · rw [← add_field _ _ _ (by omega)]; exact hc _ _ (hg 4 (by omega))
  · rw [← add_field _ _ _ (by omega)]; exact hc _ _ (hg 5 (by omega))
  · rw [← add_field _ _ _ (by omega)]; exact hc _ _ (hg 6 (by omega))
  · rw [← add_field _ _ _ (by omega)]; exact hc _ _ (hg 7 (by omega))
  · rw [← add_field _ _ _ (by omega)]; exact hc _ _ (hg 8 (by omega))
  · rw [← add_field _ _ _ (by omega)]; exact hc _ _ (hg 9 (by omega))
/-- Frames that are read: the row at B, their bytes. -/
def RdFs (w : World) (B : Option Addr) (fs : List Fr) : Prop := ∃ cs, RdC (· < w.heap.size) w B cs ∧ FrsV (· < w.heap.size) w fs cs
theorem RdFs.step {w w' : World} {B : Option Addr} {fs : List Fr} (h : RdFs w B fs) (hb : Below w.heap.size w w') : RdFs w' B fs := by
  obtain ⟨cs, h1, h2⟩ := h
  exact ⟨cs, h1.step hb, (h2.move (fun b hk => hb.block b hk)).mono (fun b hk => Nat.lt_of_lt_of_le hk hb.size)⟩
theorem RdFs.at {w : World} {B : Option Addr} {fs : List Fr} (h : RdFs w B fs) (k : Nat) (hk : k < fs.length) : ∃ ad A c, B = some ad ∧ ad.block < w.heap.size ∧ FrE w (ad.add (k * 10)) fs[k] A c ∧ RdC (· < w.heap.size) w A (bvs fs[k].bytes) := by
  obtain ⟨cs, h1, h2⟩ := h
  exact h2.at h1 k hk
theorem frs_snoc {base : Nat} {w w' : World} {o v' : Value} {fs : List Fr} {cs : List Value} {f : Fr} {A : Option Addr} {c : Nat} (hf : FrsV (fun k => base ≤ k ∧ k < w.heap.size ∧ some k ≠ o.ownBlock) w fs cs) (hr : RdC (fun k => base ≤ k ∧ k < w.heap.size ∧ some k ≠ o.ownBlock) w A (bvs f.bytes)) (hg : Grew w o w' v') :
    FrsV (fun k => base ≤ k ∧ k < w'.heap.size ∧ some k ≠ v'.ownBlock) w' (fs ++ [f]) (cs ++ (frCs f A c).toList) :=
  .snoc ((hf.move (fun k hk => hg.by_.block k hk.2.1 hk.2.2)).mono (fun k hk => ⟨hk.1, Nat.lt_of_lt_of_le hk.2.1 hg.by_.size, hg.ne hk.2.2 hk.2.1⟩))
    ((hr.move (fun k hk => hg.by_.block k hk.2.1 hk.2.2)).mono (fun k hk => ⟨hk.1, Nat.lt_of_lt_of_le hk.2.1 hg.by_.size, hg.ne hk.2.2 hk.2.1⟩))
theorem take_eq_succ {fs gs : List Fr} {k : Nat} (h1 : k < fs.length) (h2 : k < gs.length) (h : fs.take k = gs.take k) (he : fs[k] = gs[k]) : fs.take (k + 1) = gs.take (k + 1) := by
  rw [List.take_succ_eq_append_getElem h1, List.take_succ_eq_append_getElem h2, h, he]
set_option maxRecDepth 8000 in
set_option maxHeartbeats 3200000 in
theorem samelist_any (fs gs : List Fr) (A B : Option Addr) (ca cb : Nat) (w : World) (hA : RdFs w A fs) (hB : RdFs w B gs) (hl : fs.length ≤ 100000000000) :
    Calls Tryd.prog 21 #[.slice A fs.length ca, .slice B gs.length cb] w (BoolP (decide (fs = gs)) w) := by
  obtain ⟨r, hr⟩ : ∃ r, r = decide (fs = gs) := ⟨_, rfl⟩
  rw [← hr]
  have HR := Lib.hid hr
  have HA := Lib.hid hA
  have HB := Lib.hid hB
  clear hr hA hB
  by_cases hn : fs.length = gs.length
  · have HN := Lib.hid hn
    have hne : ((fs.length : Int) != (gs.length : Int)) = false := by rw [bne_eq_false_iff_eq]; omega
    clear hn
    go_enter Tryd.func21, Tryd.ntmps21
    go_wp2_with fail
    go_loopw [13] (fun i wr => ∃ k : Nat, k ≤ fs.length ∧ i = .int .i64 k ∧ fs.take k = gs.take k ∧ Below w.heap.size w wr) (fun i _ => fs.length - (intOf i).toNat)
    case atStart => exact ⟨0, Nat.zero_le _, rfl, rfl, Below.refl _ _⟩
    case round =>
      obtain ⟨k, hk, rfl, hpre, hbel⟩ := hrel
      have HPre := Lib.hid hpre
      have HBel := Lib.hid hbel
      clear hpre
      by_cases hlt : k < fs.length
      · have hltg : k < gs.length := by have := HN.out; omega
        obtain ⟨ad, A1, c1, rfl, hadb, hfr, hr⟩ := (HA.out.step hbel).at k hlt
        obtain ⟨bd, B1, d1, rfl, hbdb, hgr, hrg⟩ := (HB.out.step hbel).at k hltg
        have hsm := rsame_any fs[k] gs[k] A1 B1 c1 d1
        obtain ⟨f, hf⟩ : ∃ f, f = fs[k] := ⟨_, rfl⟩
        obtain ⟨g, hg⟩ : ∃ g, g = gs[k] := ⟨_, rfl⟩
        rw [← hf] at hfr hr hsm
        rw [← hg] at hgr hrg hsm
        have HF := Lib.hid hf
        have HG := Lib.hid hg
        have HSm := Lib.hid (fun W (hW : Below wr.heap.size wr W) => hsm W (hr.step hW) (hrg.step hW))
        obtain ⟨a0, a1, a2, a3, a4, a5, a6, a7, a8, a9⟩ := hfr
        obtain ⟨b0, b1, b2, b3, b4, b5, b6, b7, b8, b9⟩ := hgr
        have j0 : (0 : Int) ≤ (k : Int) := by omega
        have j1 : (k : Int) < (fs.length : Int) := by omega
        have j2 : (k : Int) < (gs.length : Int) := by omega
        have j3 : IntKind.i64.wrap ((k : Int) + 1) = (k : Int) + 1 := IntWalk.i64_in _ (by omega)
        have hcb1 : (ad.add (k * 10)).block < wr.heap.size := by rw [add_block]; exact hadb
        have hcb2 : (bd.add (k * 10)).block < wr.heap.size := by rw [add_block]; exact hbdb
        clear hf hg hsm hr hrg hbel
        go_wp2_with fail
        refine region_tail 8 (by kernel_rfl) (by kernel_rfl) ?_
        simp only [List.take_succ_cons, List.take_zero, List.drop_succ_cons, List.drop_zero]
        repeat still_step
        refine wpStill_nil ?_
        unfold frV at HSm
        go_wp2_with fail
        refine (HSm.out _ (Below.refl _ _).drew).mono ?_
        rintro e w5 ⟨rfl, h5⟩
        have HB5 := Lib.hid (below_on HBel.out ((Below.refl wr.heap.size wr).drew.trans h5))
        have HFG := Lib.hid (show (f = g) = (fs[k] = gs[k]) by rw [HF.out, HG.out])
        clear a0 a1 a2 a3 a4 a5 a6 a7 a8 a9 b0 b1 b2 b3 b4 b5 b6 b7 b8 b9 h5
        by_cases he : f = g
        · have hd : decide (f = g) = true := decide_eq_true he
          have HFE := Lib.hid (HFG.out.mp he)
          clear he
          rw [hd]
          go_wp2_with fail
          go_roundw
          case rel => exact ⟨k + 1, by omega, by go_num, take_eq_succ hlt hltg HPre.out HFE.out, HB5.out⟩
          case measure => simp [intOf]; omega
        · have hd : decide (f = g) = false := decide_eq_false he
          have HV := Lib.hid (show r = false by
            rw [HR.out]
            refine decide_eq_false (fun e => he ?_)
            rw [HFG.out]
            subst e
            rfl)
          clear he
          rw [hd]
          go_wp2_with fail
          go_ret
          exact ⟨by rw [HV.out]; rfl, HB5.out⟩
      · have HV := Lib.hid (show r = true by
          rw [HR.out]
          refine decide_eq_true ?_
          have h1 := HPre.out
          rw [List.take_of_length_le (by omega), List.take_of_length_le (by have := HN.out; omega)] at h1
          exact h1)
        have j1 : ¬ (k : Int) < (fs.length : Int) := by omega
        clear hbel
        go_wp2_with fail
        go_ret
        exact ⟨by rw [HV.out]; rfl, HBel.out⟩
  · have HV := Lib.hid (show r = false by rw [HR.out]; exact decide_eq_false (fun e => hn (by rw [e])))
    have hne : ((fs.length : Int) != (gs.length : Int)) = true := by rw [bne_iff_ne]; omega
    clear hn
    go_enter Tryd.func21, Tryd.ntmps21
    go_wp2_with fail
    go_ret
    exact ⟨by rw [HV.out]; rfl, Below.refl _ _⟩
end Go.Proofs.YtipgimmgjdgdeaaDoor
