/- Walks of package link: Up. -/
import Derived.Test.YtipgimmgjdgdeaaDoorKe
import Derived.Test.YtipgimmgjdgdeaaDoorSj
set_option linter.unusedVariables false
set_option linter.unusedSimpArgs false
set_option linter.unnecessarySimpa false
namespace Go.Proofs.YtipgimmgjdgdeaaDoor
open Go.RowKit
attribute [local go_sem] run_store_flt

theorem LinkAt.raised {M : Nat → Prop} {w : World} {L G I : Nat} {v vw : Value} {m : Lk} (s : LinkAt M w L G I v vw m) (hM : ∀ k, w.heap.size ≤ k → M k) :
    LinkT M w L G I v vw { m with up := true, told := m.got, wire := [] } (((w.setCell ⟨L, 2, none⟩ (.slice none 0 0)).setCell ⟨L, 3, none⟩ (.bool true)).setCell ⟨L, 4, none⟩ (.int .i64 (m.got : Nat))) := by
  have h1 : (w.setCell ⟨L, 2, none⟩ (.slice none 0 0)).heap[L]? = _ := heap_setCell_same _ _ 2 _ _ _ s.head
  have h2 : ((w.setCell ⟨L, 2, none⟩ (.slice none 0 0)).setCell ⟨L, 3, none⟩ (.bool true)).heap[L]? = _ := heap_setCell_same _ _ 3 _ _ _ h1
  have h3 : (((w.setCell ⟨L, 2, none⟩ (.slice none 0 0)).setCell ⟨L, 3, none⟩ (.bool true)).setCell ⟨L, 4, none⟩ (.int .i64 (m.got : Nat))).heap[L]? = _ := heap_setCell_same _ _ 4 _ _ _ h2
  exact rewireT s ((((Chg.refl _ w).setCell _ (.inl rfl)).setCell _ (.inl rfl)).setCell _ (.inl rfl)) (h3.trans rfl) rfl rfl ⟨rfl, .inl ⟨rfl, rfl⟩⟩ hM (fun k hk => by simp [Value.ownBlock] at hk)
theorem flat_take (fs : List Fr) (i : Nat) (h : i < fs.length) : (fs.take (i + 1)).flatMap wireF = (fs.take i).flatMap wireF ++ wireF fs[i] := by
  rw [List.take_succ_eq_append_getElem h, List.flatMap_append]
  simp
def UpP (M : Nat → Prop) (w : World) (L G I : Nat) (v vw : Value) (m' : Lk) (e : Ending) (w' : World) : Prop := e = .returned .nilIface ∧ LinkT M w L G I v vw m' w'
set_option maxRecDepth 8000 in
set_option maxHeartbeats 6400000 in
theorem up_any (es : Er → Addr) (M : Nat → Prop) (w : World) (L G I : Nat) (v vw : Value) (m : Lk) (n : Nat) (w0 : World) (hE0 : REnv w0 es) (h0 : Below w0.heap.size w0 w) (hMb : ∀ k, M k → w0.heap.size ≤ k) (s : LinkAt M w L G I v vw m) (hf : m.fine) (hn1 : m.o.acked ≤ n) (hn2 : n ≤ m.o.last) (hM : ∀ k, w.heap.size ≤ k → M k) :
    Calls Tryd.prog 43 #[.pointer (some ⟨L, 0, none⟩), .int .i64 (n : Nat)] w (UpP M w L G I v vw (m.raise n)) := by
  have HE0 := Lib.hid hE0
  have H0 := Lib.hid h0
  have HMb := Lib.hid hMb
  have HS := Lib.hid s
  have HFn := Lib.hid hf
  have HM := Lib.hid hM
  have hyes : (m.o.acked : Int) ≤ (n : Int) ∧ (n : Int) ≤ (m.o.last : Int) := by omega
  have hsi := (since_any es _ w G v m.o (n : Int) (hE0.step h0) s.out hf.o)
  have HSi := Lib.hid (hsi.mono fun e w' h => And.intro h.1 (h.2.1 hyes))
  have g0 := s.c0
  obtain ⟨fs, hfs⟩ : ∃ fs, fs = m.o.held.drop (n - m.o.acked) := ⟨_, rfl⟩
  have HFs := Lib.hid hfs
  have hfew := hf.o.few
  have hfl : fs.length ≤ 1170 := by rw [hfs, List.length_drop]; omega
  have hck : ∀ f ∈ fs, checkF f = true := fun f hh => (hf.o.ok f (by rw [hfs] at hh; exact List.mem_of_mem_drop hh)).1
  have HCk := Lib.hid hck
  clear hE0 h0 hMb s hf hM hsi hfs hck hfew
  go_enter Tryd.func43, Tryd.ntmps43
  go_wp2_with fail
  refine HSi.out.mono ?_
  rintro e w1 ⟨hb1, A1, c1, cs1, rfl, hown1, hfr1⟩
  rw [show (n : Int).toNat = n from rfl, ← HFs.out] at hown1 hfr1 ⊢
  have hz1 := hb1.size
  have s1 : LinkAt (fun k => M k ∧ (k < w.heap.size ∨ w1.heap.size ≤ k)) w1 L G I v vw m := (HS.out.more (fun k hk h => ⟨h, .inl hk⟩)).on hb1
  have hak := ack_any es _ w1 G v m.o (n : Int) (HE0.out.step (below_on H0.out hb1)) s1.out HFn.out.o
  have HAk := Lib.hid (hak.mono fun e w' h => h.1 (by omega))
  have HS1 := Lib.hid s1
  have HB1 := Lib.hid hb1
  have HRd1 := Lib.hid (RdC.of_own hown1)
  have HFr1 := Lib.hid hfr1
  have g1 := s1.c0
  clear hb1 s1 hak hown1 hfr1 g0
  go_wp2_with fail
  refine HAk.out.mono ?_
  rintro e w2 ⟨rfl, hch2, v2, ho2, hcut2⟩
  have hz2 := hch2.size
  have s2 : LinkAt (fun k => M k ∧ (k < w.heap.size ∨ w1.heap.size ≤ k)) w2 L G I v2 vw { m with o := m.o.ack n } := HS1.out.outs (hch2.mono (fun i e => .inl e)) ho2 rfl rfl rfl rfl rfl
  have hcw2 : Chg (LinkB L G I v vw) w w2 := (Chg.of_below HB1.out).trans hch2 (fun i _ e => .inr (.inr (.inl (.inl e))))
  have hbb2 : ∀ k, LinkB L G I v2 vw k → LinkB L G I v vw k := fun k hk => by
    rcases hk with h | h | h | h
    · exact .inl h
    · exact .inr (.inl h)
    · rcases h with h | h
      · exact .inr (.inr (.inl (.inl h)))
      · rcases hcut2 with e | e
        · exact .inr (.inr (.inl (.inr (by rw [h, e]))))
        · rw [e] at h; cases h
    · exact .inr (.inr (.inr h))
  have hkeep2 : ∀ k, w.heap.size ≤ k ∧ k < w1.heap.size → w2.heap[k]? = w1.heap[k]? := fun k hk => hch2.block k hk.2 (fun e => by have := HS.out.ltG; omega)
  have HGo := Lib.hid (got_any w2 I m.got s2.inn)
  have HS2 := Lib.hid s2
  have HCw2 := Lib.hid hcw2
  have HBb2 := Lib.hid hbb2
  have HKeep2 := Lib.hid hkeep2
  have g2 := s2.c1
  clear hch2 ho2 hcut2 s2 hcw2 hbb2 hkeep2 g1
  go_wp2_with fail
  refine HGo.out.mono ?_
  rintro e w3 hv3
  obtain ⟨rfl, hb3⟩ := hv3.below
  have s3 := HS2.out.on hb3
  have gf := s3.fz
  have g3 := s3.c3
  have g4 := s3.c2
  have g5 := s3.c4
  have hl3 := s3.lt
  have hz3 := hb3.size
  have hM3 : ∀ k, w3.heap.size ≤ k → M k ∧ (k < w.heap.size ∨ w1.heap.size ≤ k) := fun k hk => ⟨HM.out k (by omega), .inr (by omega)⟩
  have ht := s3.raised hM3
  obtain ⟨w4, hw4⟩ : ∃ W, W = ((w3.setCell ⟨L, 2, none⟩ (.slice none 0 0)).setCell ⟨L, 3, none⟩ (.bool true)).setCell ⟨L, 4, none⟩ (.int .i64 (m.got : Nat)) := ⟨_, rfl⟩
  rw [← hw4] at ht
  obtain ⟨v4, vw4, s4, hch4, hbb4⟩ := ht
  have hz4 := hch4.size
  have hcw4 : Chg (LinkB L G I v vw) w w4 := (HCw2.out.trans (Chg.of_below (S := LinkB L G I v vw) hb3) (fun i _ e => e)).trans hch4 (fun i _ e => HBb2.out i e)
  have hbw4 : ∀ k, LinkB L G I v4 vw4 k → LinkB L G I v vw k ∨ w.heap.size ≤ k := fun k hk => by
    rcases hbb4 k hk with h | h
    · exact .inl (HBb2.out k h)
    · exact .inr (by omega)
  have hnot3 : ∀ k, w.heap.size ≤ k ∧ k < w1.heap.size → ¬ LinkB L G I v2 vw k := fun k hk e => by have := (s3.inB k e).1.2; omega
  have hkeep4 : ∀ k, w.heap.size ≤ k ∧ k < w1.heap.size → w4.heap[k]? = w1.heap[k]? := fun k hk => ((hch4.block k (by omega) (hnot3 k hk)).trans (hb3.block k (by omega))).trans (HKeep2.out k hk)
  have HRd4 := Lib.hid (HRd1.out.move (w' := w4) hkeep4)
  have HFr4 := Lib.hid ((HFr1.out.mono (ok' := fun k => w.heap.size ≤ k ∧ k < w1.heap.size) (fun k hk => ⟨hk.1, hk.2.1⟩)).move (w' := w4) hkeep4)
  have HS4 := Lib.hid s4
  have HCw4 := Lib.hid hcw4
  have HBw4 := Lib.hid hbw4
  have HW4 := Lib.hid hw4.symm
  clear hv3 s3 hM3 hw4 s4 hch4 hbb4 hcw4 hbw4 hnot3 hkeep4 hb3 g2
  go_wp2_with (rw [HW4.out])
  go_loopw [47] (fun iv wr => ∃ (i : Nat) (v' vw' : Value), i ≤ fs.length ∧ iv = .int .i64 i ∧ LinkAt (fun k => M k ∧ (k < w.heap.size ∨ w1.heap.size ≤ k)) wr L G I v' vw' { m with o := m.o.ack n, up := true, told := m.got, wire := (fs.take i).flatMap wireF } ∧ Chg (LinkB L G I v vw) w wr ∧ (∀ k, LinkB L G I v' vw' k → LinkB L G I v vw k ∨ w.heap.size ≤ k) ∧ w4.heap.size ≤ wr.heap.size ∧ ∀ k, w.heap.size ≤ k ∧ k < w1.heap.size → wr.heap[k]? = w4.heap[k]?) (fun iv _ => fs.length - (intOf iv).toNat)
  case atStart => exact ⟨0, v4, vw4, Nat.zero_le _, rfl, HS4.out, HCw4.out, HBw4.out, Nat.le_refl _, fun _ _ => rfl⟩
  case round =>
    obtain ⟨i, v', vw', hi, rfl, hs, hch, hbb, hzr, hkp⟩ := hrel
    have HSr := Lib.hid hs
    have HChr := Lib.hid hch
    have HBbr := Lib.hid hbb
    have HKp := Lib.hid hkp
    by_cases hlt : i < fs.length
    · obtain ⟨ad, Ai, ci, rfl, hadb, hfr, hr⟩ := (HFr4.out.move (w' := wr) hkp).at (HRd4.out.move (w' := wr) hkp) i hlt
      have hft := flat_take fs i hlt
      have hckf := HCk.out _ (List.getElem_mem hlt)
      generalize fs[i] = f at *
      obtain ⟨w5, hw5⟩ : ∃ W, W = wr.alloc (Obj.cells #[.int .i64 f.kind, .int .i64 f.seq, .int .i64 f.got, .int .i64 f.stream, .int .i64 f.amount, .int .i64 f.code, .string f.who, .string f.name, .float .f64 f.weight, .slice Ai f.bytes.length ci] 33) := ⟨_, rfl⟩
      have hb5 : Below wr.heap.size wr w5 := by rw [hw5]; exact below_box _ _
      have HF5 := Lib.hid (show FrC w5 wr.heap.size f Ai ci by rw [hw5]; exact FrC.box wr f Ai ci _)
      have hs5 : w5.heap.size = wr.heap.size + 1 := by rw [hw5]; simp
      have hbase : Below w0.heap.size w0 w5 := below_on (HS.out.base hch H0.out HMb.out) hb5
      have hwl : ((fs.take i).flatMap wireF).length ≤ 1000000000000 := by
        have h1 := flat_wire (fs.take i)
        rw [List.length_take] at h1
        omega
      have hwr := write_any es (fun k => M k ∧ (k < w.heap.size ∨ w1.heap.size ≤ k)) w5 L G I v' vw' _ f Ai ci (HE0.out.step hbase) (hs.on hb5) (check_lens' hckf) ((hr.mono (ok' := (· < wr.heap.size)) (fun k hk => by omega)).step hb5) (fun k hk => ⟨HM.out k (by omega), .inr (by omega)⟩) hwl
      have HWr := Lib.hid hwr
      have HW5 := Lib.hid hw5.symm
      have HB5 := Lib.hid hb5
      have HFt := Lib.hid hft
      obtain ⟨a0, a1, a2, a3, a4, a5, a6, a7, a8, a9⟩ := hfr
      obtain ⟨d0, d1, d2, d3, d4, d5, d6, d7, d8, d9⟩ := HF5.out
      have j0 : (0 : Int) ≤ (i : Int) := by omega
      have j1 : (i : Int) < (fs.length : Int) := by omega
      have j3 : IntKind.i64.wrap ((i : Int) + 1) = (i : Int) + 1 := IntWalk.i64_in _ (by omega)
      have hcb1 : (ad.add (i * 10)).block < wr.heap.size := by rw [add_block]; omega
      have hlt5 : wr.heap.size < w5.heap.size := by omega
      clear hs hch hbb hkp hckf hft hr hw5 hb5 hbase hwl hwr
      unfold frV at HWr
      go_wp2_with (rw [HW5.out])
      refine HWr.out.mono ?_
      rintro e w6 ⟨rfl, v6, vw6, hs6, hch6, hbb6⟩
      have hz6 := hch6.size
      have hnot : ∀ k, w.heap.size ≤ k ∧ k < w1.heap.size → ¬ LinkB L G I v' vw' k := fun k hk e => by have := (HSr.out.inB k e).1.2; omega
      have HRel := Lib.hid (show LinkAt (fun k => M k ∧ (k < w.heap.size ∨ w1.heap.size ≤ k)) w6 L G I v6 vw6 { m with o := m.o.ack n, up := true, told := m.got, wire := (fs.take (i + 1)).flatMap wireF } ∧ Chg (LinkB L G I v vw) w w6 ∧ (∀ k, LinkB L G I v6 vw6 k → LinkB L G I v vw k ∨ w.heap.size ≤ k) ∧ w4.heap.size ≤ w6.heap.size ∧ ∀ k, w.heap.size ≤ k ∧ k < w1.heap.size → w6.heap[k]? = w4.heap[k]? from by
        refine ⟨by rw [HFt.out]; exact hs6, ?_, fun k hk => ?_, by omega, fun k hk => ?_⟩
        · refine (HChr.out.trans (Chg.of_below (S := LinkB L G I v vw) HB5.out) (fun i _ e => e)).trans hch6 (fun i hi e => ?_)
          rcases HBbr.out i e with h | h
          · exact h
          · omega
        · rcases hbb6 k hk with h | h
          · exact HBbr.out k h
          · exact .inr (by omega)
        · exact ((hch6.block k (by omega) (hnot k hk)).trans (HB5.out.block k (by omega))).trans (HKp.out k hk))
      clear a0 a1 a2 a3 a4 a5 a6 a7 a8 a9 d0 d1 d2 d3 d4 d5 d6 d7 d8 d9 hs6 hch6 hbb6 hnot
      go_wp2_with fail
      go_roundw
      case rel => exact ⟨i + 1, v6, vw6, by omega, by go_num, HRel.out⟩
      case measure => simp [intOf]; omega
    · have hii : i = fs.length := by omega
      have j1 : ¬ (i : Int) < (fs.length : Int) := by omega
      have HV := Lib.hid (show ({ m with o := m.o.ack n, up := true, told := m.got, wire := (fs.take i).flatMap wireF } : Lk) = m.raise n by
        rw [hii, List.take_length, HFs.out]
        rfl)
      clear hs hch hbb hkp hii
      go_wp2_with fail
      go_ret
      refine ⟨rfl, v', vw', ?_, HChr.out, HBbr.out⟩
      rw [← HV.out]
      exact HSr.out.more (fun k _ h => h.1)
end Go.Proofs.YtipgimmgjdgdeaaDoor
