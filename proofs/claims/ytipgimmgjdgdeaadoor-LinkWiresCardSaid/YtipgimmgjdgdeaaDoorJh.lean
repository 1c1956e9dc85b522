/- Walk of package replay: Since. -/
import Derived.Test.YtipgimmgjdgdeaaDoorJg
import Derived.Test.YtipgimmgjdgdeaaDoorSh
set_option linter.unusedVariables false
set_option linter.unusedSimpArgs false
set_option linter.unnecessarySimpa false
namespace Go.Proofs.YtipgimmgjdgdeaaDoor
open Go.RowKit
attribute [local go_sem] run_store_flt

/-- What Since answers: the frames, in blocks of their own. -/
def SinceP (es : Er → Addr) (w : World) (o : Ro) (n : Int) (e : Ending) (w' : World) : Prop :=
  Below w.heap.size w w' ∧
  ((o.acked : Int) ≤ n ∧ n ≤ (o.last : Int) → ∃ A c cs, e = .returned (.tuple #[.slice A (o.held.drop (n.toNat - o.acked)).length c, .nilIface]) ∧ w'.ownsRow w.heap.size 33 10 (.slice A (o.held.drop (n.toNat - o.acked)).length c) (o.held.drop (n.toNat - o.acked)).length cs ∧
    FrsV (fun k => w.heap.size ≤ k ∧ k < w'.heap.size ∧ some k ≠ (Value.slice A (o.held.drop (n.toNat - o.acked)).length c).ownBlock) w' (o.held.drop (n.toNat - o.acked)) cs) ∧
  (¬ ((o.acked : Int) ≤ n ∧ n ≤ (o.last : Int)) → e = .returned (.tuple #[.slice none 0 0, errV (es .gap)]))
theorem bytes_512 {f : Fr} (h : checkF f = true) : f.bytes.length ≤ 512 := by
  obtain ⟨_, h1, h2⟩ := (check_iff f).1 h
  by_cases hm : 8 ∈ shapeF f.kind
  · have := bytes_le (h1 8 hm)
    omega
  · have h3 : f.bytes = [] := h2 8 (by omega) hm
    rw [h3]
    decide
/-- A frame that is held, at an address. -/
structure KtE (W : World) (a : Addr) (f : Fr) (A : Option Addr) (c : Nat) : Prop where
  fr : FrE W a f A c
  c10 : W.cell? ⟨a.block, a.off + 10, none⟩ = some (.int .i64 (sizeF f : Nat))
theorem KtE.move {w w' : World} {a : Addr} {f : Fr} {A : Option Addr} {c : Nat} (h : KtE w a f A c) (hb : w'.heap[a.block]? = w.heap[a.block]?) : KtE w' a f A c :=
  ⟨h.fr.move hb, (World.cell?_of_block (a := ⟨a.block, a.off + 10, none⟩) hb).trans h.c10⟩
theorem KtsV.at {ok ok' : Nat → Prop} {w : World} {B : Option Addr} {fs : List Fr} {cs : List Value} (hB : RdC ok w B cs) (h : KtsV ok' w fs cs) (k : Nat) (hk : k < fs.length) :
    ∃ ad A c, B = some ad ∧ ok ad.block ∧ KtE w (ad.add (k * 11)) fs[k] A c ∧ RdC ok' w A (bvs fs[k].bytes) := by
  obtain ⟨A, c, hr, hg⟩ := h.get k hk
  have h0 : cs[k * 11]? = some (.int .i64 fs[k].kind) := hg 0 (by omega)
  obtain ⟨ad, e, hb, hc⟩ := hB (by intro e; rw [e] at h0; simp at h0)
  refine ⟨ad, A, c, e, hb, ⟨⟨hc _ _ h0, ?_, ?_, ?_, ?_, ?_, ?_, ?_, ?_, ?_⟩, ?_⟩, hr⟩
  · rw [← add_field _ _ _ (by omega)]; exact hc _ _ (hg 1 (by omega))
  · rw [← add_field _ _ _ (by omega)]; exact hc _ _ (hg 2 (by omega))
  · rw [← add_field _ _ _ (by omega)]; exact hc _ _ (hg 3 (by omega))
  · rw [← add_field _ _ _ (by omega)]; exact hc _ _ (hg 4 (by omega))
  · rw [← add_field _ _ _ (by omega)]; exact hc _ _ (hg 5 (by omega))
  · rw [← add_field _ _ _ (by omega)]; exact hc _ _ (hg 6 (by omega))
  · rw [← add_field _ _ _ (by omega)]; exact hc _ _ (hg 7 (by omega))
  · rw [← add_field _ _ _ (by omega)]; exact hc _ _ (hg 8 (by omega))
  · rw [← add_field _ _ _ (by omega)]; exact hc _ _ (hg 9 (by omega))
  · rw [← add_field _ _ _ (by omega)]; exact hc _ _ (hg 10 (by omega))
theorem CutAt.dropE {M : Nat → Prop} {w : World} {size : Nat} {A : Option Addr} {n c : Nat} {xs : List Value} (h : CutAt M w size (.slice A n c) n xs) (k : Nat) (hk : k ≤ n) :
    CutAt M w size (.slice (if c = k then A else A.map (·.add (k * size))) (n - k) (c - k)) (n - k) (xs.drop (k * size)) := by
  have hd := h.drop k hk (decide (c ≤ k)) rfl
  have hnc : n ≤ c := by
    obtain ⟨A', c', e, h1, _⟩ := h.shape
    injection e with _ _ e3
    omega
  by_cases h1 : c = k
  · rw [if_pos h1]
    rw [if_pos (by simp; omega)] at hd
    exact hd
  · rw [if_neg h1]
    rw [if_neg (by simp; omega)] at hd
    exact hd
set_option maxRecDepth 8000 in
set_option maxHeartbeats 6400000 in
theorem since_any (es : Er → Addr) (M : Nat → Prop) (w : World) (G : Nat) (v : Value) (o : Ro) (n : Int) (hE : REnv w es) (s : OutAt M w G v o) (hf : o.fine) :
    Calls Tryd.prog 17 #[.pointer (some ⟨G, 0, none⟩), .int .i64 n] w (SinceP es w o n) := by
  have HLs := Lib.hid (last_any M w G v o s hf)
  have HE := Lib.hid hE
  have HS := Lib.hid s
  have HFn := Lib.hid hf
  have hll := hf.last
  have g0 := s.c0
  have g1 := s.c1
  clear hE s hf
  go_enter Tryd.func17, Tryd.ntmps17
  by_cases h0 : n < (o.acked : Int)
  · have he := HE.out.gap.at
    unfold errV at he
    have hno : ¬ ((o.acked : Int) ≤ n ∧ n ≤ (o.last : Int)) := by omega
    go_wp2_with fail
    go_quiet (fail)
    go_wp2_with fail
    go_ret2
    exact ⟨below_drewN (Below.refl _ _) _, fun h => absurd h hno, fun _ => rfl⟩
  · by_cases hgt : (o.last : Int) < n
    · have hno : ¬ ((o.acked : Int) ≤ n ∧ n ≤ (o.last : Int)) := by omega
      go_wp2_with fail
      refine HLs.out.mono ?_
      rintro e w1 ⟨rfl, n1, hw1⟩
      have hb1 : Below w.heap.size w w1 := by rw [hw1]; exact below_drewN (Below.refl _ _) _
      have he := ((HE.out.step hb1).gap).at
      unfold errV at he
      clear hw1
      go_wp2_with fail
      go_quiet (fail)
      go_wp2_with fail
      go_ret2
      exact ⟨below_drewN hb1 _, fun h => absurd h hno, fun _ => rfl⟩
    · have hyes : (o.acked : Int) ≤ n ∧ n ≤ (o.last : Int) := by omega
      go_wp2_with fail
      refine HLs.out.mono ?_
      rintro e w1 ⟨rfl, n1, hw1⟩
      have hb1 : Below w.heap.size w w1 := by rw [hw1]; exact below_drewN (Below.refl _ _) _
      have HB1 := Lib.hid hb1
      have hs1 := HS.out.on hb1
      have HS1 := Lib.hid hs1
      clear hw1 hb1 g0 g1
      have g0 := hs1.c0
      have g1 := hs1.c1
      obtain ⟨A, c, rfl, hcl, hcm⟩ := hs1.shape
      have hla : (o.last : Int) = (o.acked : Int) + (o.held.length : Int) := by unfold Ro.last; omega
      have hfw := HFn.out.few
      have j1 : IntKind.i64.wrap (n - (o.acked : Int)) = n - (o.acked : Int) := IntWalk.i64_in _ (by omega)
      have i1 : (0 : Int) ≤ n - (o.acked : Int) := by omega
      have i2 : n - (o.acked : Int) ≤ (o.held.length : Int) := by omega
      obtain ⟨k, hk⟩ : ∃ k, k = n.toNat - o.acked := ⟨_, rfl⟩
      have i3 : n - (o.acked : Int) = (k : Int) := by omega
      have hkl : k ≤ o.held.length := by omega
      have HLa := Lib.hid hla
      have HK := Lib.hid hk
      clear hs1 hla hk
      rw [i3] at j1 i1 i2
      have HI3 := Lib.hid i3
      go_wp2_with fail
      go_quiet (fail)
      obtain ⟨w2, hw2⟩ : ∃ W, W = w1.drewN nq := ⟨_, rfl⟩
      have hb2 : Below w.heap.size w w2 := by rw [hw2]; exact below_drewN HB1.out nq
      have hs2 : OutAt M w2 G (.slice A o.held.length c) o := HS.out.on hb2
      obtain ⟨cs0, hcut, hkts⟩ := hs2.rows
      have hd := hcut.dropE k hkl
      have hkd := hkts.drop k
      obtain ⟨A2, hA2⟩ : ∃ A2, A2 = (if c = k then A else A.map (·.add (k * 11))) := ⟨_, rfl⟩
      rw [← hA2] at hd
      have hrd := hd.rd.mono (ok' := (· < w2.heap.size)) (fun b hb => hb.2.1)
      have hkd2 := hkd.mono (ok' := (· < w2.heap.size)) (fun b hb => hb.2.1)
      obtain ⟨fs, hfs⟩ : ∃ fs, fs = o.held.drop k := ⟨_, rfl⟩
      have hfl : fs.length = o.held.length - k := by rw [hfs, List.length_drop]
      have hbl : ∀ f ∈ fs, f.bytes.length ≤ 512 := fun f hf => bytes_512 ((HFn.out.ok f (by rw [hfs] at hf; exact List.mem_of_mem_drop hf)).1)
      rw [← hfs] at hkd2
      have HB2 := Lib.hid hb2
      have HRd := Lib.hid hrd
      have HKd := Lib.hid hkd2
      have HFs := Lib.hid hfs
      have HBl := Lib.hid hbl
      rw [← hA2, ← hw2, ← hfl]
      have hfw2 : fs.length ≤ 1170 := by omega
      clear hw2 hb2 hs2 hcut hkts hd hkd hA2 hrd hkd2 hfs hbl g0 g1 j1 i1 i2 hfl
      go_wp2_with fail
      go_loopw [6, 34] (fun ov iv wr => ∃ (i : Nat) (cs : List Value), i ≤ fs.length ∧ iv = .int .i64 i ∧ wr.ownsRow w2.heap.size 33 10 ov i cs ∧ FrsV (fun b => w2.heap.size ≤ b ∧ b < wr.heap.size ∧ some b ≠ ov.ownBlock) wr (fs.take i) cs ∧ Below w2.heap.size w2 wr) (fun _ iv _ => fs.length - (intOf iv).toNat)
      case atStart => exact ⟨0, [], Nat.zero_le _, rfl, ⟨rfl, .inl ⟨rfl, rfl⟩⟩, .nil, Below.refl _ _⟩
      case round =>
        obtain ⟨i, cs, hi, rfl, ho, hfr, hbel⟩ := hrel
        have HOw := Lib.hid ho
        have HFr := Lib.hid hfr
        have HBel := Lib.hid hbel
        obtain ⟨Ao, co, rfl, hco, _⟩ := own_slice ho
        have hzw : w.heap.size ≤ w2.heap.size := HB2.out.size
        have hzr := hbel.size
        by_cases hlt : i < fs.length
        · obtain ⟨ad, A1, c1, rfl, hadb, hkt, hr⟩ := ((HKd.out.move (fun b hb => hbel.block b hb)).mono (ok' := (· < wr.heap.size)) (fun b hb => Nat.lt_of_lt_of_le hb hzr)).at (HRd.out.step hbel) i hlt
          obtain ⟨f, hf⟩ : ∃ f, f = fs[i] := ⟨_, rfl⟩
          have hbf : f.bytes.length ≤ 512 := by rw [hf]; exact HBl.out _ (List.getElem_mem hlt)
          have htk : fs.take (i + 1) = fs.take i ++ [f] := by rw [List.take_succ_eq_append_getElem hlt, hf]
          rw [← hf] at hkt hr
          obtain ⟨w3, hw3⟩ : ∃ W, W = wr.alloc (Obj.cells #[.int .i64 f.kind, .int .i64 f.seq, .int .i64 f.got, .int .i64 f.stream, .int .i64 f.amount, .int .i64 f.code, .string f.who, .string f.name, .float .f64 f.weight, .slice A1 f.bytes.length c1, .int .i64 (sizeF f : Nat)] 92) := ⟨_, rfl⟩
          have hb3 : Below wr.heap.size wr w3 := by rw [hw3]; exact below_box _ _
          have hh3 : w3.heap[wr.heap.size]? = some (.cells #[.int .i64 f.kind, .int .i64 f.seq, .int .i64 f.got, .int .i64 f.stream, .int .i64 f.amount, .int .i64 f.code, .string f.who, .string f.name, .float .f64 f.weight, .slice A1 f.bytes.length c1, .int .i64 (sizeF f : Nat)] 92 (0, 0)) := by rw [hw3]; exact heap_alloc_new _ _
          have hs3 : w3.heap.size = wr.heap.size + 1 := by rw [hw3]; simp
          have HTo := Lib.hid (told_any w3 f A1 c1 (hr.step hb3) (by omega))
          have HB3 := Lib.hid hb3
          have HW3 := Lib.hid hw3.symm
          have HTk := Lib.hid htk
          have hol : ∀ b, (Value.slice Ao i co).ownBlock = some b → w2.heap.size ≤ b ∧ b < wr.heap.size := fun b hb => HOw.out.lt b hb
          have HOl := Lib.hid hol
          obtain ⟨⟨a0, a1, a2, a3, a4, a5, a6, a7, a8, a9⟩, a10⟩ := hkt
          obtain ⟨d0, d1, d2, d3, d4, d5, d6, d7, d8, d9, d10⟩ := cells11 hh3
          have j0 : (0 : Int) ≤ (i : Int) := by omega
          have j1 : (i : Int) < (fs.length : Int) := by omega
          have j3 : IntKind.i64.wrap ((i : Int) + 1) = (i : Int) + 1 := IntWalk.i64_in _ (by omega)
          have hcb1 : (ad.add (i * 11)).block < wr.heap.size := by rw [add_block]; exact hadb
          have hlt3 : wr.heap.size < w3.heap.size := by omega
          obtain ⟨j0', hj, jz0, jz1, jz2⟩ := info_parts infoFr
          clear hf htk hb3 hh3 hw3 hr hbel ho hfr hol
          go_wp2_with (rw [HW3.out])
          refine HTo.out.mono ?_
          rintro e w4 ⟨hb4, A4, c4, rfl, hr4⟩
          have hz4 := hb4.size
          have HB4 := Lib.hid (HB3.out.trans (hb4.mono HB3.out.size))
          have HO4 := Lib.hid (own_below HOw.out HB4.out)
          have HR4 := Lib.hid hr4
          clear hb4 hr4 a0 a1 a2 a3 a4 a5 a6 a7 a8 a9 a10 d0 d1 d2 d3 d4 d5 d6 d7 d8 d9 d10
          unfold frV
          go_wp2_with (at_builtin; refine wpList_appN (W := w4) w2.heap.size (.tmp 38) (.tmp 42) 22 33 j0' _ 10 112 (by rfl) (by rfl) Tryd.underlying22 hj jz0 jz1 jz2 rfl (by omega) (by omega) _ i cs (frCs f A4 c4).toList (by rfl) w4.heap.size rfl (by rfl) HO4.out rfl (by simp [frCs, Value.oneCell']) (by omega) (by omega) ?_; intro v6 w6 hown6 hg6)
          have hB4 := HB4.out
          refine ⟨⟨i + 1, cs ++ (frCs f A4 c4).toList, by omega, by go_num, hown6, ?_, hg6.below (HBel.out.trans (hB4.mono hzr)) (by omega) (fun b hb => (HOl.out b hb).1)⟩, by simp [intOf]; omega⟩
          rw [HTk.out]
          refine frs_snoc (w := w4) ((HFr.out.move (fun b hb => hB4.block b hb.2.1)).mono (fun b hb => ⟨hb.1, by omega, hb.2.2⟩)) (HR4.out.mono (fun b hb => ⟨by omega, hb.2, fun e => ?_⟩)) hg6
          have := (HOl.out b e.symm).2
          omega
        · have hii : i = fs.length := by omega
          subst hii
          have j1 : ¬ ((fs.length : Nat) : Int) < (fs.length : Int) := by omega
          have HFs2 := Lib.hid (show o.held.drop (n.toNat - o.acked) = fs by rw [HFs.out, HK.out])
          clear hbel ho hfr
          go_wp2_with fail
          go_ret2
          refine ⟨HB2.out.trans (HBel.out.mono hzw), fun _ => ?_, fun h => absurd hyes h⟩
          rw [HFs2.out]
          refine ⟨Ao, co, cs, rfl, own_lower HOw.out hzw, ?_⟩
          have h1 := HFr.out
          rw [List.take_length] at h1
          exact h1.mono (fun b hb => ⟨by omega, hb.2⟩)
end Go.Proofs.YtipgimmgjdgdeaaDoor
