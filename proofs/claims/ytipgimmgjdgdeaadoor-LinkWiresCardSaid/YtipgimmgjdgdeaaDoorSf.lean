/- Walks of package scan: Feed of a broken scanner. -/
import Derived.Test.YtipgimmgjdgdeaaDoorSd
set_option linter.unusedVariables false
set_option linter.unusedSimpArgs false
set_option linter.unnecessarySimpa false
namespace Go.Proofs.YtipgimmgjdgdeaaDoor
open Go.RowKit
attribute [local go_sem] run_store_flt

/-- What Feed may turn of the world that was there. -/
def FeedS (G : Nat) (v : Value) (i : Nat) : Prop := i = G ∨ some i = v.ownBlock
/-- What Feed answers; what the scanner holds behind it. -/
def FeedP (es : Er → Addr) (base : Nat) (w : World) (G : Nat) (v : Value) (h b : Bs) (e : Ending) (w' : World) : Prop :=
  ∃ (L : Value) (cs : List Value), w'.ownsRow w.heap.size 33 10 L (scanB (h ++ b)).1.length cs ∧ FrsV (fun k => w.heap.size ≤ k ∧ k < w'.heap.size) w' (scanB (h ++ b)).1 cs ∧ Chg (FeedS G v) w w' ∧
    (((scanB (h ++ b)).2.2 = false ∧ e = .returned (.tuple #[L, .nilIface]) ∧ ∃ v', ScanAt base w' G v' ((h ++ b).drop (scanB (h ++ b)).2.1) false ∧ (∀ k, v'.ownBlock = some k → v.ownBlock = some k ∨ w.heap.size ≤ k)) ∨
     ((scanB (h ++ b)).2.2 = true ∧ e = .returned (.tuple #[L, errV (es .frame)]) ∧ ScanAt base w' G (.slice none 0 0) [] true))
def FeedRel (base : Nat) (w : World) (G : Nat) (v : Value) (H : Bs) (o : Value) (wr : World) : Prop :=
  ∃ (fs : List Fr) (n : Nat) (v' : Value) (cs : List Value), Took H fs n ∧ ScanAt base wr G v' (H.drop n) false ∧ wr.ownsRow w.heap.size 33 10 o fs.length cs ∧ FrsV (fun k => w.heap.size ≤ k ∧ k < wr.heap.size ∧ some k ≠ o.ownBlock) wr fs cs ∧ Chg (FeedS G v) w wr ∧ o.ownBlock ≠ some G ∧ (∀ k, v'.ownBlock = some k → v.ownBlock = some k ∨ w.heap.size ≤ k)
theorem infoFr : (Tryd.prog.info? 33).map (fun i => (i.zero, i.size, i.bytes)) = some (some (.agg #[.int .i64 0, .int .i64 0, .int .i64 0, .int .i64 0, .int .i64 0, .int .i64 0, .string ⟨#[]⟩, .string ⟨#[]⟩, .float .f64 0, .slice none 0 0]), 10, 112) := by kernel_rfl
def heldLen (w : World) (G : Nat) : Nat := match w.cell? ⟨G, 0, none⟩ with
  | some (.slice _ n _) => n
  | _ => 0
theorem ScanAt.held {base : Nat} {w : World} {G : Nat} {v : Value} {h : Bs} {br : Bool} (s : ScanAt base w G v h br) : heldLen w G = h.length := by
  obtain ⟨A, c, rfl, _, _⟩ := own_slice s.own
  unfold heldLen
  rw [s.c0]
set_option maxRecDepth 8000 in
set_option maxHeartbeats 3200000 in
theorem feed_any (es : Er → Addr) (base : Nat) (w : World) (G : Nat) (v : Value) (h b : Bs) (B : Option Addr) (cb : Nat) (w0 : World) (hE : GEnv w0 es) (h0 : Below w0.heap.size w0 w) (hbs : w0.heap.size ≤ base) (hs : ScanAt base w G v h false) (hB : RdC (· < w.heap.size) w B (bvs b)) (hl : h.length + b.length ≤ 100000000000) :
    Calls Tryd.prog 61 #[.pointer (some ⟨G, 0, none⟩), .slice B b.length cb] w (FeedP es base w G v h b) := by
  obtain ⟨i0, hi, hz0, hz1, hz2⟩ := info_parts infoU8
  have g0 := hs.c0
  have g1 := hs.c1
  have gf := hs.fz 0
  have hGl := hs.lt
  obtain ⟨A, c, rfl, hc, _⟩ := own_slice hs.own
  have hbe : base ≤ w.heap.size := Nat.le_trans hs.le (Nat.le_of_lt hs.lt)
  have HS := Lib.hid hs
  have HE := Lib.hid hE
  have HB := Lib.hid hB
  clear hs hE hB
  go_enter Tryd.func61, Tryd.ntmps61
  go_wp2_with (at_builtin; refine wpList_appS (ok := (· < w.heap.size)) _ base (.tmp 19) (.tmp 20) 31 5 i0 (.int .u8 0) 1 1 rfl (by rfl) Tryd.underlying31 hi hz0 hz1 hz2 rfl (by omega) (by omega) _ h.length (bvs h) (by rfl) HS.out.own _ b.length _ (bvs b) (by rfl) (by simp) HB.out (bvs_one _) (by omega) hbe ?_; intro v1 w1 hown1 hg1; obtain ⟨A1, c1, rfl, hc1, _⟩ := own_slice hown1; have h1G : w1.heap[G]? = some (.cells #[.slice A h.length c, .bool false] 109 (0, 0)) := (hg1.by_.block G hGl (fun e => HS.out.ne e.symm)).trans HS.out.head; have k1c := (cell_of_row _ _ 0 _ _ _ h1G).trans (show _ = some (Value.slice A h.length c) from rfl); have k1f := frozen_of_row w1 G 0 _ _ h1G)
  have hsc2 : ScanAt base (w1.setCell ⟨G, 0, none⟩ (.slice A1 (h.length + b.length) c1)) G (.slice A1 (h.length + b.length) c1) (h ++ b) false := by
    have hne : (Value.slice A1 (h.length + b.length) c1).ownBlock ≠ some G := fun e => hg1.ne (fun e2 => HS.out.ne e2.symm) hGl e.symm
    refine ⟨(heap_setCell_same _ _ _ _ _ _ h1G).trans rfl, ?_, HS.out.le, hne⟩
    have hk := hown1.kept (grown_set (w := w1) (p := ⟨G, 0, none⟩) (.slice A1 (h.length + b.length) c1)) (.inr hne)
    rw [bvs_append, List.length_append]
    exact hk
  have hch2 : Chg (FeedS G (.slice A h.length c)) w (w1.setCell ⟨G, 0, none⟩ (.slice A1 (h.length + b.length) c1)) :=
    (Chg.of_grown hg1.by_ (fun i hi => .inr hi)).setCell _ (.inl rfl)
  have HAt2 := Lib.hid (show ∀ k, (Value.slice A1 (h.length + b.length) c1).ownBlock = some k → (Value.slice A h.length c).ownBlock = some k ∨ w.heap.size ≤ k from fun k hk => by
    rcases hg1.at_ with e | ⟨k', e, hk'⟩
    · exact .inl (by rw [← e]; exact hk)
    · rw [e] at hk; injection hk with hk; exact .inr (by omega))
  have HSc2 := Lib.hid hsc2
  have HCh2 := Lib.hid hch2
  generalize w1.setCell ⟨G, 0, none⟩ (.slice A1 (h.length + b.length) c1) = w2 at *
  clear hown1 hg1 h1G k1c k1f hsc2 hch2 g0 g1 gf
  go_loopw [6] (fun o wr => FeedRel base w G (.slice A h.length c) (h ++ b) o wr) (fun _ wr => heldLen wr G)
  case atStart => exact ⟨[], 0, _, [], .nil, by simpa using HSc2.out, ⟨rfl, .inl ⟨rfl, rfl⟩⟩, .nil, HCh2.out, by simp [Value.ownBlock], HAt2.out⟩
  case round =>
    obtain ⟨fs, n, v', cs, ht, hsc, ho, hfr, hch, hne, hvat⟩ := hrel
    have HVat := Lib.hid hvat
    have hz : w.heap.size ≤ wr.heap.size := hch.size
    have hb0 : Below w0.heap.size w0 wr := h0.trans (hch.below h0.size (fun i hi hS => by
      rcases hS with rfl | hS
      · exact Nat.le_trans hbs HS.out.le
      · exact Nat.le_trans hbs (own_base HS.out.own i hS.symm)))
    have hnx := next_any es base wr G v' ((h ++ b).drop n) (HE.out.step hb0) hsc (by rw [List.length_drop, List.length_append]; omega)
    have HSc := Lib.hid hsc
    have HT := Lib.hid ht
    have HOw := Lib.hid ho
    have HFr := Lib.hid hfr
    have HCh := Lib.hid hch
    obtain ⟨Ao, co, rfl, hco, _⟩ := own_slice ho
    have hGr := hsc.lt
    clear hsc ht ho hfr hch hb0 hvat
    cases hn : nextF ((h ++ b).drop n) with
    | wait =>
      have hnx2 := hnx.mono fun e w' h => h.isWait hn
      have HNx := Lib.hid hnx2
      have HScan := Lib.hid (HT.out.wait hn)
      clear hnx hnx2 hn
      go_wp2_with fail
      refine HNx.out.mono ?_
      rintro e w3 ⟨rfl, hb3⟩
      have HB3 := Lib.hid hb3
      clear hb3
      simp only [frV, Fr.of, noS, List.length_nil]
      go_wp2_with fail
      go_ret2
      have hb4 := HB3.out.alloc HB3.out.size (Obj.cells #[.int .i64 0, .int .i64 0, .int .i64 0, .int .i64 0, .int .i64 0, .int .i64 0, .string ⟨#[]⟩, .string ⟨#[]⟩, .float .f64 0, .slice none 0 0] 33)
      unfold FeedP
      rw [HScan.out]
      exact ⟨_, cs, own_below HOw.out hb4, (HFr.out.move (fun k hk => hb4.block k hk.2.1)).mono (fun k hk => ⟨hk.1, Nat.lt_of_lt_of_le hk.2.1 hb4.size⟩), HCh.out.trans (Chg.of_below (S := FeedS G (.slice A h.length c)) hb4) (fun i _ e => e), .inl ⟨rfl, rfl, v', HSc.out.on hb4, HVat.out⟩⟩
    | bad =>
      have hnx2 := hnx.mono fun e w' h => h.isBad hn
      have HNx := Lib.hid hnx2
      have HScan := Lib.hid (HT.out.bad hn)
      clear hnx hnx2 hn
      go_wp2_with fail
      refine HNx.out.mono ?_
      rintro e w3 ⟨rfl, hb3⟩
      have HB3 := Lib.hid hb3
      have HSc3 := Lib.hid (HSc.out.on hb3)
      have g0 := HSc3.out.c0
      have g1 := HSc3.out.c1
      have gf := HSc3.out.fz
      have hG3 := HSc3.out.lt
      clear hb3
      simp only [frV, Fr.of, noS, errV, List.length_nil]
      go_wp2_with fail
      go_ret2
      have hb4 : Below ((w3.setCell ⟨G, 1, none⟩ (.bool true)).setCell ⟨G, 0, none⟩ (.slice none 0 0)).heap.size ((w3.setCell ⟨G, 1, none⟩ (.bool true)).setCell ⟨G, 0, none⟩ (.slice none 0 0)) (((w3.setCell ⟨G, 1, none⟩ (.bool true)).setCell ⟨G, 0, none⟩ (.slice none 0 0)).alloc (Obj.cells #[.int .i64 0, .int .i64 0, .int .i64 0, .int .i64 0, .int .i64 0, .int .i64 0, .string ⟨#[]⟩, .string ⟨#[]⟩, .float .f64 0, .slice none 0 0] 33)) := below_box _ _
      have hsw : ((w3.setCell ⟨G, 1, none⟩ (.bool true)).setCell ⟨G, 0, none⟩ (.slice none 0 0)).heap.size = w3.heap.size := by rw [World.size_setCell, World.size_setCell]
      have hch3 : Chg (FeedS G (.slice A h.length c)) w ((w3.setCell ⟨G, 1, none⟩ (.bool true)).setCell ⟨G, 0, none⟩ (.slice none 0 0)) := ((HCh.out.trans (Chg.of_below (S := FeedS G (.slice A h.length c)) HB3.out) (fun i _ e => e)).setCell _ (.inl rfl)).setCell _ (.inl rfl)
      have ho3 := ((own_below HOw.out HB3.out).kept (grown_set (w := w3) (p := ⟨G, 1, none⟩) (.bool true)) (.inr hne)).kept (grown_set (w := w3.setCell ⟨G, 1, none⟩ (.bool true)) (p := ⟨G, 0, none⟩) (.slice none 0 0)) (.inr hne)
      have hG0 : G < w.heap.size := HS.out.lt
      unfold FeedP
      rw [HScan.out]
      refine ⟨_, cs, own_below ho3 hb4, (HFr.out.move (fun k hk => ?_)).mono (fun k hk => ⟨hk.1, Nat.lt_of_lt_of_le hk.2.1 (Nat.le_trans HB3.out.size (by rw [← hsw]; exact hb4.size))⟩), hch3.trans (Chg.of_below (S := FeedS G (.slice A h.length c)) hb4) (fun i _ e => e), .inr ⟨rfl, rfl, ?_, ⟨rfl, .inl ⟨rfl, rfl⟩⟩, HS.out.le, by simp [Value.ownBlock]⟩⟩
      · rw [hb4.block k (by rw [hsw]; exact Nat.lt_of_lt_of_le hk.2.1 HB3.out.size), heap_setCell_other _ _ _ _ (by show k ≠ G; have := hk.1; omega), heap_setCell_other _ _ _ _ (by show k ≠ G; have := hk.1; omega)]
        exact HB3.out.block k hk.2.1
      · rw [hb4.block G (by rw [hsw]; exact hG3), heap_setCell_same _ _ 0 _ _ _ (heap_setCell_same _ _ 1 _ _ _ HSc3.out.head)]
        rfl
    | one f m =>
      have hnx2 := hnx.mono fun e w' h => h.isOne hn
      have HNx := Lib.hid hnx2
      have hle := HT.out.le
      have HT2 := Lib.hid (HT.out.snoc hn)
      have HLn := Lib.hid (nx_one hn)
      clear hnx hnx2 hn
      obtain ⟨j0, hj, jz0, jz1, jz2⟩ := info_parts infoFr
      have hlen : 7 * fs.length ≤ 100000000000 := by have h1 := hle.1; rw [List.length_append] at h1; have h2 := hle.2; omega
      go_wp2_with fail
      refine HNx.out.mono ?_
      rintro e w3 ⟨Af, cf, v3, rfl, hr, hc3, hg3, ho3⟩
      have hoo : w3.ownsRow w.heap.size 33 10 (.slice Ao fs.length co) fs.length cs := HOw.out.kept ⟨hc3.os, hc3.tape, hc3.output, hc3.size, fun i hi hne' => hc3.block i hi (fun e => hne' (by rw [e]))⟩ (.inr hne)
      have HOo := Lib.hid (own_below hoo (below_box w3 (Obj.cells #[.int .i64 f.kind, .int .i64 f.seq, .int .i64 f.got, .int .i64 f.stream, .int .i64 f.amount, .int .i64 f.code, .string f.who, .string f.name, .float .f64 f.weight, .slice Af f.bytes.length cf] 33)))
      have HHr := Lib.hid hr
      have HC3 := Lib.hid hc3
      have HG3 := Lib.hid hg3
      have HO3 := Lib.hid ho3
      have hz3 : wr.heap.size ≤ w3.heap.size := hc3.size
      clear hr hc3 hg3 ho3 hoo hle
      unfold frV
      go_wp2_with (at_builtin; refine wpList_appN (W := w3.alloc (Obj.cells #[.int .i64 f.kind, .int .i64 f.seq, .int .i64 f.got, .int .i64 f.stream, .int .i64 f.amount, .int .i64 f.code, .string f.who, .string f.name, .float .f64 f.weight, .slice Af f.bytes.length cf] 33)) w.heap.size _ _ 22 33 _ _ 10 112 rfl (by rfl) Tryd.underlying22 hj jz0 jz1 jz2 rfl (by omega) (by omega) _ fs.length cs [.int .i64 f.kind, .int .i64 f.seq, .int .i64 f.got, .int .i64 f.stream, .int .i64 f.amount, .int .i64 f.code, .string f.who, .string f.name, .float .f64 f.weight, .slice Af f.bytes.length cf] (by rfl) (w3.heap.size + 1) (by simp) (by rfl) HOo.out rfl (by simp [Value.oneCell']) (by omega) (by simp; omega) ?_; intro v6 w6 hown6 hg6)
      have hba := below_box w3 (Obj.cells #[.int .i64 f.kind, .int .i64 f.seq, .int .i64 f.got, .int .i64 f.stream, .int .i64 f.amount, .int .i64 f.code, .string f.who, .string f.name, .float .f64 f.weight, .slice Af f.bytes.length cf] 33)
      have hol : ∀ k, (Value.slice Ao fs.length co).ownBlock = some k → w.heap.size ≤ k ∧ k < wr.heap.size := fun k hk => HOw.out.lt k hk
      have hvl : ∀ k, v3.ownBlock = some k → wr.heap.size ≤ k ∧ k < w3.heap.size := fun k hk => HO3.out.lt k hk
      have hm : ∀ k, k < w3.heap.size → some k ≠ (Value.slice Ao fs.length co).ownBlock → w6.heap[k]? = w3.heap[k]? := fun k hk hn => (hg6.by_.block k (Nat.lt_of_lt_of_le hk hba.size) hn).trans (hba.block k hk)
      have hG0 : G < w.heap.size := HS.out.lt
      have hsc6 : ScanAt base w6 G v3 ((h ++ b).drop (n + m)) false := by
        refine ⟨(hm G (by omega) (fun e => hne e.symm)).trans HG3.out, ?_, HS.out.le, fun e => by have := (hvl G e).1; omega⟩
        rw [← List.drop_drop]
        have h1 := (own_below HO3.out hba).kept hg6.by_ (by
          cases hv : v3.ownBlock with
          | none => exact .inl rfl
          | some k => exact .inr (fun e => by have := (hvl k hv).1; have := (hol k e.symm).2; omega))
        exact own_lower h1 (by omega)
      have h6s : w3.heap.size ≤ w6.heap.size := Nat.le_trans hba.size hg6.by_.size
      refine ⟨⟨fs ++ [f], n + m, v3, _, HT2.out, hsc6, by rw [List.length_append]; exact hown6, ?_, ?_, ?_, ?_⟩, ?_⟩
      · refine .snoc ((HFr.out.move (w' := w6) (fun k hk => ?_)).mono (fun k hk => ⟨hk.1, by omega, hg6.ne hk.2.2 (by have := hba.size; omega)⟩)) ((HHr.out.move (w' := w6) (fun k hk => ?_)).mono (fun k hk => ⟨by omega, by omega, ?_⟩))
        · rw [hm k (by omega) hk.2.2]
          exact HC3.out.block k hk.2.1 (by have := hk.1; show ¬ k = G; omega)
        · exact hm k hk.2 (fun e => by have := (hol k e.symm).2; omega)
        · exact hg6.ne (fun e => by have := (hol k e.symm).2; omega) (by have := hba.size; omega)
      · refine (HCh.out.trans (HC3.out.mono (S' := FeedS G (.slice A h.length c)) (fun i e => .inl e)) (fun i _ e => e)).trans (Chg.of_below (S := FeedS G (.slice A h.length c)) hba) (fun i _ e => e) |>.trans (Chg.of_grown (S := fun i => some i = (Value.slice Ao fs.length co).ownBlock) hg6.by_ (fun i e => e)) (fun i hi e => ?_)
        have := (hol i e.symm).1
        omega
      · exact fun e => hg6.ne (fun e2 => hne e2.symm) (by have := hba.size; omega) e.symm
      · exact fun k hk => .inr (by have := (hvl k hk).1; omega)
      · rw [hsc6.held, HSc.out.held, List.length_drop, List.length_drop, List.length_append]
        obtain ⟨_, _, h7, _, hl2⟩ := HLn.out
        rw [List.length_drop, List.length_append] at hl2
        omega
end Go.Proofs.YtipgimmgjdgdeaaDoor
/- Walk of package scan: Feed. -/
set_option linter.unusedVariables false
set_option linter.unusedSimpArgs false
set_option linter.unnecessarySimpa false
namespace Go.Proofs.YtipgimmgjdgdeaaDoor
open Go.RowKit

set_option maxRecDepth 8000 in
set_option maxHeartbeats 1600000 in
theorem feed_broken (a : Addr) (base : Nat) (w : World) (G : Nat) (v bv : Value) (h : Bs) (hE : w.cell? ⟨8, 0, none⟩ = some (errV a)) (hs : ScanAt base w G v h true) :
    Calls Tryd.prog 61 #[.pointer (some ⟨G, 0, none⟩), bv] w (fun e w' => e = .returned (.tuple #[.slice none 0 0, errV a]) ∧ ∃ n, w' = w.drewN n) := by
  have g1 := hs.c1
  unfold errV at hE
  clear hs
  go_enter Tryd.func61, Tryd.ntmps61
  go_wp2_with fail
  go_quiet (fail)
  go_wp2_with fail
  go_ret2
  exact ⟨rfl, _, rfl⟩
end Go.Proofs.YtipgimmgjdgdeaaDoor
