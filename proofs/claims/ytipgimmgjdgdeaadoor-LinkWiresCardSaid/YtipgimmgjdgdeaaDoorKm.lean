/- Walk of the statement LinkWires. -/
import Derived.Test.YtipgimmgjdgdeaaDoorKi
import Derived.Deep.CutBlock
set_option linter.unusedVariables false
set_option linter.unusedSimpArgs false
set_option linter.unnecessarySimpa false
namespace Go.Proofs.YtipgimmgjdgdeaaDoor
open Go.RowKit
attribute [local go_sem] run_store_flt

/-- Two links beside one another. -/
def Two (B : Nat) (w : World) (L1 G1 I1 L2 G2 I2 : Nat) (ma mb : Lk) : Prop :=
  ∃ Da va wa Db vb wb, Own B Da w L1 G1 I1 va wa ma ∧ Own B Db w L2 G2 I2 vb wb mb ∧ ∀ k, Da k → ¬ Db k
section
variable {B : Nat} {w w' w0 : World} {L1 G1 I1 L2 G2 I2 : Nat} {ma mb m' : Lk} {Da Db : Nat → Prop} {va wa vb wb : Value}
theorem Two.on (h : Two B w L1 G1 I1 L2 G2 I2 ma mb) (hb : Below w.heap.size w w') : Two B w' L1 G1 I1 L2 G2 I2 ma mb := by
  obtain ⟨Da, va, wa, Db, vb, wb, h1, h2, h3⟩ := h
  exact ⟨Da, va, wa, Db, vb, wb, h1.on hb, h2.on hb, h3⟩
theorem Two.exL (hB : B ≤ w.heap.size) (h1 : Own B Da w L1 G1 I1 va wa ma) (h2 : Own B Db w L2 G2 I2 vb wb mb) (h3 : ∀ k, Da k → ¬ Db k) (hb0 : Below B w0 w) (t : LinkT (Fresh Da w) w L1 G1 I1 va wa m' w') :
    ∃ v' vw', Own B (Next Da w w') w' L1 G1 I1 v' vw' m' ∧ Own B Db w' L2 G2 I2 vb wb mb ∧ (∀ k, Next Da w w' k → ¬ Db k) ∧ Below B w0 w' ∧ w.heap.size ≤ w'.heap.size ∧ ∀ k, k < w.heap.size → ¬ Da k → w'.heap[k]? = w.heap[k]? := by
  obtain ⟨v', vw', s, hch, hbb⟩ := t
  refine ⟨v', vw', Own.next hB h1.dom s, h2.beside hch (fun k hk => h3 k (h1.sub k hk).1), fun k hk hd => ?_, h1.below hch hb0 hB, hch.size, fun k hk hn => hch.block k hk (fun e => hn (h1.sub k e).1)⟩
  rcases hk.1 with h | h
  · exact h3 k h hd
  · have := (h2.dom k hd).2; omega
theorem Two.exR (hB : B ≤ w.heap.size) (h1 : Own B Da w L1 G1 I1 va wa ma) (h2 : Own B Db w L2 G2 I2 vb wb mb) (h3 : ∀ k, Da k → ¬ Db k) (hb0 : Below B w0 w) (t : LinkT (Fresh Db w) w L2 G2 I2 vb wb m' w') :
    ∃ v' vw', Own B Da w' L1 G1 I1 va wa ma ∧ Own B (Next Db w w') w' L2 G2 I2 v' vw' m' ∧ (∀ k, Da k → ¬ Next Db w w' k) ∧ Below B w0 w' ∧ w.heap.size ≤ w'.heap.size ∧ ∀ k, k < w.heap.size → ¬ Db k → w'.heap[k]? = w.heap[k]? := by
  obtain ⟨v', vw', s, hch, hbb⟩ := t
  refine ⟨v', vw', h1.beside hch (fun k hk hd => h3 k hd (h2.sub k hk).1), Own.next hB h2.dom s, fun k hk hd => ?_, h2.below hch hb0 hB, hch.size, fun k hk hn => hch.block k hk (fun e => hn (h2.sub k e).1)⟩
  rcases hd.1 with h | h
  · exact h3 k hk h
  · have := (h1.dom k hk).2; omega
theorem Two.mkL (hB : B ≤ w.heap.size) (h1 : Own B Da w L1 G1 I1 va wa ma) (h2 : Own B Db w L2 G2 I2 vb wb mb) (h3 : ∀ k, Da k → ¬ Db k) (hb0 : Below B w0 w) (t : LinkT (Fresh Da w) w L1 G1 I1 va wa m' w') :
    Two B w' L1 G1 I1 L2 G2 I2 m' mb ∧ Below B w0 w' ∧ w.heap.size ≤ w'.heap.size ∧ ∀ k, k < w.heap.size → ¬ Da k → w'.heap[k]? = w.heap[k]? := by
  obtain ⟨v', vw', k1, k2, k3, k4⟩ := Two.exL hB h1 h2 h3 hb0 t
  exact ⟨⟨_, v', vw', Db, vb, wb, k1, k2, k3⟩, k4⟩
theorem Two.mkR (hB : B ≤ w.heap.size) (h1 : Own B Da w L1 G1 I1 va wa ma) (h2 : Own B Db w L2 G2 I2 vb wb mb) (h3 : ∀ k, Da k → ¬ Db k) (hb0 : Below B w0 w) (t : LinkT (Fresh Db w) w L2 G2 I2 vb wb m' w') :
    Two B w' L1 G1 I1 L2 G2 I2 ma m' ∧ Below B w0 w' ∧ w.heap.size ≤ w'.heap.size ∧ ∀ k, k < w.heap.size → ¬ Db k → w'.heap[k]? = w.heap[k]? := by
  obtain ⟨v', vw', k1, k2, k3, k4⟩ := Two.exR hB h1 h2 h3 hb0 t
  exact ⟨⟨Da, va, wa, _, v', vw', k1, k2, k3⟩, k4⟩
end
theorem WireP.t {M : Nat → Prop} {w w' : World} {L G I : Nat} {v vw : Value} {m : Lk} {k : Nat} {e : Ending} (h : WireP M w L G I v vw m k e w') : ∃ A c, e = .returned (.slice A k c) ∧ LinkT M w L G I v vw { m with wire := m.wire.drop k } w' ∧ RdC (· < w'.heap.size) w' A (bvs (m.wire.take k)) := by
  obtain ⟨A, c, v', vw', h1, h2, h3, h4, h5, _⟩ := h
  exact ⟨A, c, h1, ⟨v', vw', h2, h3, h4⟩, h5.mono (fun k hk => hk.2.1)⟩
def Lk.sent (m : Lk) (f : Fr) : Lk := match m.o.may f with
  | none => m.push f
  | some _ => m
theorem SendP.t {es : Er → Addr} {M : Nat → Prop} {w w' : World} {L G I : Nat} {v vw : Value} {m : Lk} {f : Fr} {e : Ending} (s : LinkAt M w L G I v vw m) (h : SendP es M w L G I v vw m f e w') : ∃ x, e = .returned x ∧ LinkT M w L G I v vw (m.sent f) w' := by
  unfold SendP at h
  unfold Lk.sent
  cases hm : m.o.may f with
  | some er =>
    rw [hm] at h
    exact ⟨_, h.1, LinkT.below s h.2⟩
  | none =>
    rw [hm] at h
    obtain ⟨A, c, v', vw', h1, h2, h3, h4, _⟩ := h
    exact ⟨_, h1, v', vw', h2, h3, h4⟩
/-- What both links are while frames are sent. -/
structure Sent (m : Lk) (i : Nat) : Prop where
  fine : m.fine
  up : m.up = true
  acked : m.o.acked = 0
  wire : m.wire = m.o.held.flatMap wireF
  len : m.wire.length ≤ 607 * i
theorem Sent.zero : Sent lk0 0 := ⟨fine0, rfl, rfl, rfl, Nat.le_refl _⟩
theorem Sent.step {m : Lk} {i : Nat} (h : Sent m i) (hi : i ≤ 100) (f : Fr) : Sent (m.sent f) (i + 1) := by
  unfold Lk.sent
  cases hm : m.o.may f with
  | some er => exact ⟨h.fine, h.up, h.acked, h.wire, Nat.le_trans h.len (by omega)⟩
  | none =>
    have h1 : (m.push f).wire = m.wire ++ wireF (m.o.as f) := by unfold Lk.push; simp [h.up]
    have h2 := wireF_len (m.o.as f)
    have h3 := h.len
    refine ⟨h.fine.push hm (by omega), h.up, h.acked, ?_, ?_⟩
    · show (m.push f).wire = (m.o.held ++ [m.o.as f]).flatMap wireF
      rw [h1, h.wire, List.flatMap_append]
      simp
    · show (m.push f).wire.length ≤ _
      rw [h1, List.length_append]
      omega
theorem Sent.again {m : Lk} {i : Nat} (h : Sent m i) (s : Int) : (({ m with wire := m.wire.drop m.wire.length } : Lk).down s).raise 0 = { m with told := m.got, since := s } := by
  obtain ⟨⟨hh, a⟩, got, wire, up, told, since⟩ := m
  have h1 := h.up
  have h2 := h.acked
  have h3 := h.wire
  simp only at h1 h2 h3
  subst h1 h2 h3
  unfold Lk.down Lk.raise
  simp [Ro.ack]
theorem bytes_app (a b : Bs) : (⟨a.toArray⟩ ++ ⟨b.toArray⟩ : ByteArray) = ⟨(a ++ b).toArray⟩ := by
  apply ByteArray.ext
  simp
def WiresA (B : Nat) (w0 : World) (L1 G1 I1 L2 G2 I2 : Nat) (wx : World) : Prop := ∃ m i, i ≤ 31 ∧ Sent m i ∧ Two B wx L1 G1 I1 L2 G2 I2 m m ∧ Below B w0 wx
set_option maxRecDepth 8000 in
set_option maxHeartbeats 12000000 in
theorem wires_walk (es : Er → Addr) (w : World) (A Z : Option Addr) (c cz : Nat) (fs : List Fr) (zs : List Int) (hE : LEnv w es) (hR : RdFs w A fs) (hl : ∀ f ∈ fs, f.lens) (hc : fs.length ≤ 9223372036854775807) (hZ : RdC (· < w.heap.size) w Z (zs.map (Value.int .i64))) (hzl : zs.length ≤ 9223372036854775807) :
    Calls Tryd.prog 9 #[.slice A fs.length c, .slice Z zs.length cz] w (OkPost w) := by
  have HE := Lib.hid hE
  have HAl := Lib.hid (alive12 es w hE)
  have HR := Lib.hid hR
  have HLs := Lib.hid hl
  have HZ := Lib.hid hZ
  clear hE hR hl hZ
  go_enter Tryd.func9, Tryd.ntmps9
  go_wp2_with fail
  refine HAl.out.mono ?_
  rintro e wl ⟨rfl, hbl⟩
  have HN1 := Lib.hid (lnew_any wl)
  have HBl := Lib.hid hbl
  have hzl2 := hbl.size
  clear hbl
  go_wp2_with fail
  refine HN1.out.mono ?_
  rintro e w1 ⟨L1, G1, I1, rfl, sa1, hb1⟩
  have HN2 := Lib.hid (lnew_any w1)
  have HB1 := Lib.hid hb1
  have hz1 := hb1.size
  have HSa1 := Lib.hid (show Own wl.heap.size (fun k => wl.heap.size ≤ k ∧ k < w1.heap.size) w1 L1 G1 I1 _ _ _ from ⟨sa1, fun k hk => hk⟩)
  clear sa1 hb1
  go_wp2_with fail
  refine HN2.out.mono ?_
  rintro e w2 ⟨L2, G2, I2, rfl, sb2, hb2⟩
  have hz2 := hb2.size
  have HSb2 := Lib.hid (show Own wl.heap.size (fun k => w1.heap.size ≤ k ∧ k < w2.heap.size) w2 L2 G2 I2 _ _ _ from ⟨sb2, fun k hk => ⟨by omega, hk.2⟩⟩)
  have HSa2 := Lib.hid (HSa1.out.on hb2)
  have HB2 := Lib.hid (below_on HB1.out hb2)
  have hzw2 : wl.heap.size ≤ w2.heap.size := by omega
  clear sb2 hb2
  have hup := up_any es _ w2 L1 G1 I1 _ _ _ 0 wl (HE.out.r.step HBl.out) HB2.out (HSa2.out.low hzw2) HSa2.out.open Lk.fine.new (Nat.le_refl _) (Nat.zero_le _) HSa2.out.fresh
  rw [raise_new] at hup
  have HUp := Lib.hid (show Calls Tryd.prog 43 #[.pointer (some ⟨L1, 0, none⟩), .int .i64 0] w2 _ from hup)
  clear hup
  go_wp2_with fail
  refine HUp.out.mono ?_
  rintro e w3 ⟨rfl, ht3⟩
  obtain ⟨htw3, hbw3, hz3, _⟩ := Two.mkL hzw2 HSa2.out HSb2.out (fun k hk hd => by omega) HB2.out ht3
  have HB3 := Lib.hid hbw3
  obtain ⟨Da, va, wa, Db, vb, wb, ha3, hb3, hd3⟩ := htw3
  have hup := up_any es _ w3 L2 G2 I2 _ _ _ 0 wl (HE.out.r.step HBl.out) hbw3 (hb3.low hbw3.size) hb3.open Lk.fine.new (Nat.le_refl _) (Nat.zero_le _) hb3.fresh
  rw [raise_new] at hup
  have HUp2 := Lib.hid (show Calls Tryd.prog 43 #[.pointer (some ⟨L2, 0, none⟩), .int .i64 0] w3 _ from hup)
  have HMk := Lib.hid (fun w' (t : LinkT (Fresh Db w3) w3 L2 G2 I2 vb wb lk0 w') => Two.mkR hbw3.size ha3 hb3 hd3 hbw3 t)
  clear hup ht3 hbw3 ha3 hb3 hd3
  go_wp2_with fail
  refine HUp2.out.mono ?_
  rintro e w4 ⟨rfl, ht4⟩
  obtain ⟨htw4, hbw4, hz4, _⟩ := HMk.out w4 ht4
  have HT4 := Lib.hid htw4
  have HB4 := Lib.hid hbw4
  clear ht4 htw4 hbw4 HMk
  go_upto_block 0 with fail
  go_cut [] from 29 to 45 (fun wx => WiresA wl.heap.size wl L1 G1 I1 L2 G2 I2 wx)
  case first =>
    go_wp2_with fail
    go_loopw [28] (fun iv wr => ∃ i : Nat, i ≤ fs.length ∧ iv = .int .i64 i ∧ i ≤ 31 ∧ ∃ m, Sent m i ∧ Two wl.heap.size wr L1 G1 I1 L2 G2 I2 m m ∧ Below wl.heap.size wl wr) (fun iv _ => fs.length - (intOf iv).toNat)
    case atStart => exact ⟨0, Nat.zero_le _, rfl, by omega, lk0, Sent.zero, HT4.out, HB4.out⟩
    case round =>
      obtain ⟨i, hi, rfl, hi31, m, hm, htw, hbel⟩ := hrel
      have HM := Lib.hid hm
      have HT := Lib.hid htw
      have HBel := Lib.hid hbel
      have hBw := below_on HBl.out hbel
      have hzr := hbel.size
      by_cases hlt : i < fs.length
      · obtain ⟨ad, A1, c1, rfl, hadb0, hfr0, hr0⟩ := HR.out.at i hlt
        have hadb : ad.block < wr.heap.size := Nat.lt_of_lt_of_le hadb0 hBw.size
        have hfr := hfr0.move (w' := wr) (hBw.block _ (by rw [add_block]; exact hadb0))
        have hr := hr0.below hBw
        have hlf := HLs.out _ (List.getElem_mem hlt)
        generalize fs[i] = f at *
        obtain ⟨w5, hw5⟩ : ∃ W, W = wr.alloc (Obj.cells #[.int .i64 f.kind, .int .i64 f.seq, .int .i64 f.got, .int .i64 f.stream, .int .i64 f.amount, .int .i64 f.code, .string f.who, .string f.name, .float .f64 f.weight, .slice A1 f.bytes.length c1] 33) := ⟨_, rfl⟩
        have hb5 : Below wr.heap.size wr w5 := by rw [hw5]; exact below_box _ _
        have HF5 := Lib.hid (show FrC w5 wr.heap.size f A1 c1 by rw [hw5]; exact FrC.box wr f A1 c1 _)
        have hs5 : w5.heap.size = wr.heap.size + 1 := by rw [hw5]; simp
        have HB5 := Lib.hid (hbel.trans (hb5.mono hzr))
        have HR5 := Lib.hid (hr.move (w' := w5) (fun k hk => hb5.block k (Nat.lt_of_lt_of_le hk hBw.size)))
        have HW5 := Lib.hid hw5.symm
        have HLf := Lib.hid hlf
        have HLo := Lib.hid (llong_any f A1 c1 w5 hlf)
        have HB5r := Lib.hid hb5
        obtain ⟨a0, a1, a2, a3, a4, a5, a6, a7, a8, a9⟩ := hfr
        obtain ⟨d0, d1, d2, d3, d4, d5, d6, d7, d8, d9⟩ := HF5.out
        have j0 : (0 : Int) ≤ (i : Int) := by omega
        have j1 : (i : Int) < (fs.length : Int) := by omega
        have j3 : IntKind.i64.wrap ((i : Int) + 1) = (i : Int) + 1 := IntWalk.i64_in _ (by omega)
        have hcb1 : (ad.add (i * 10)).block < wr.heap.size := by rw [add_block]; exact hadb
        have hlt5 : wr.heap.size < w5.heap.size := by omega
        have hzB : w.heap.size ≤ wl.heap.size := hzl2
        unfold frV at HLo
        clear hb5 hw5 hr hr0 hfr0 hbel hBw htw hm hlf
        by_cases h30 : 30 < i
        · have k0 : (30 : Int) < (i : Int) := by omega
          clear h30
          go_wp2_with (rw [HW5.out])
          go_meet
          exact ⟨m, i, hi31, HM.out, HT.out.on HB5r.out, HB5.out⟩
        · have k0 : ¬ (30 : Int) < (i : Int) := by omega
          go_wp2_with (rw [HW5.out])
          refine HLo.out.mono ?_
          rintro e w6 ⟨rfl, hb6⟩
          have HT6 := Lib.hid ((HT.out.on HB5r.out).on hb6)
          have HB6 := Lib.hid (below_on HB5.out hb6)
          have HF6 := Lib.hid (HF5.out.on hlt5 hb6)
          have HB56 := Lib.hid (below_on HB5r.out hb6)
          have hz6 := hb6.size
          have HR6 := Lib.hid (HR5.out.move (w' := w6) (fun k hk => hb6.block k (by omega)))
          have hlt6 : wr.heap.size < w6.heap.size := by omega
          clear hb6 a0 a1 a2 a3 a4 a5 a6 a7 a8 a9 d0 d1 d2 d3 d4 d5 d6 d7 d8 d9
          cases hlg : longL f with
          | true =>
            clear hlg h30
            go_wp2_with fail
            go_meet
            exact ⟨m, i, hi31, HM.out, HT6.out, HB6.out⟩
          | false =>
            have hbl := longL_no hlg
            obtain ⟨Da, va, wa, Db, vb, wb, ha, hb, hd⟩ := HT.out
            have hz5 := HB5.out.size
            have hzr6 : wr.heap.size < w6.heap.size := hlt6
            have ha6 := ha.on HB56.out
            have hb6 := hb.on HB56.out
            have hnA : ∀ k, Da k → wl.heap.size ≤ k ∧ k < wr.heap.size := ha.dom
            have hnB : ∀ k, Db k → wl.heap.size ≤ k ∧ k < wr.heap.size := hb.dom
            have hsa := send_any es _ w6 L1 G1 I1 _ _ m f A1 c1 wl (HE.out.r.step HBl.out) HB6.out (ha6.low HB6.out.size) ha6.open HM.out.fine HLf.out (HR6.out.mono (ok' := (· < w6.heap.size)) (fun k hk => by omega)) (by omega) ha6.fresh
            have HSa := Lib.hid (hsa.mono fun e w' h => h.t ha6.open)
            have HA6 := Lib.hid ha6
            have HB6' := Lib.hid hb6
            have HD := Lib.hid hd
            have HnA := Lib.hid hnA
            have HnB := Lib.hid hnB
            obtain ⟨d0, d1, d2, d3, d4, d5, d6, d7, d8, d9⟩ := HF6.out
            clear hlg h30 ha6 hb6 hsa ha hb hd hnA hnB
            unfold frV at HSa
            go_wp2_with fail
            refine HSa.out.mono ?_
            rintro e w7 ⟨x7, rfl, t7⟩
            obtain ⟨v7, vw7, ha7, hb7, hd7, hbel7, hz7, hk7⟩ := Two.exL HB6.out.size HA6.out HB6'.out HD.out HB6.out t7
            have hF7 := HF6.out.move (hk7 wr.heap.size hlt6 (fun e => by have := (HnA.out _ e).2; omega))
            have hR7 : RdC (· < w.heap.size) w7 A1 (bvs f.bytes) := HR6.out.move (fun k hk => hk7 k (by omega) (fun e => by have := (HnA.out _ e).1; omega))
            have hsb := send_any es _ w7 L2 G2 I2 _ _ m f A1 c1 wl (HE.out.r.step HBl.out) hbel7 (hb7.low hbel7.size) hb7.open HM.out.fine HLf.out (hR7.mono (ok' := (· < w7.heap.size)) (fun k hk => by omega)) (by omega) hb7.fresh
            have HSb := Lib.hid (hsb.mono fun e w' h => h.t hb7.open)
            have HA7 := Lib.hid ha7
            have HB7 := Lib.hid hb7
            have HD7 := Lib.hid hd7
            have HBe7 := Lib.hid hbel7
            have hlt7 : wr.heap.size < w7.heap.size := by omega
            clear d0 d1 d2 d3 d4 d5 d6 d7 d8 d9 t7 ha7 hb7 hd7 hbel7 hk7 hR7 hsb
            obtain ⟨d0, d1, d2, d3, d4, d5, d6, d7, d8, d9⟩ := hF7
            unfold frV at HSb
            go_wp2_with fail
            refine HSb.out.mono ?_
            rintro e w8 ⟨x8, rfl, t8⟩
            obtain ⟨htw8, hbel8, _, _⟩ := Two.mkR HBe7.out.size HA7.out HB7.out HD7.out HBe7.out t8
            have HT8 := Lib.hid htw8
            have HB8 := Lib.hid hbel8
            clear t8 htw8 hbel8 d0 d1 d2 d3 d4 d5 d6 d7 d8 d9
            go_wp2_with fail
            go_roundw
            case rel => exact ⟨i + 1, by omega, by go_num, by omega, m.sent f, HM.out.step (by omega) f, HT8.out, HB8.out⟩
            case measure => simp [intOf]; omega
      · have j1 : ¬ (i : Int) < (fs.length : Int) := by omega
        clear htw hbel hBw hm
        go_wp2_with fail
        go_meet
        exact ⟨m, i, hi31, HM.out, HT.out, HBel.out⟩
  case rest =>
    obtain ⟨m, i, hi31, hm, htw, hbel⟩ := hcut
    obtain ⟨W, hW⟩ : ∃ W, W = m.wire := ⟨_, rfl⟩
    obtain ⟨NW, hNW⟩ : ∃ NW, NW = W.length := ⟨_, rfl⟩
    have hNl : NW ≤ 18817 := by rw [hNW, hW]; exact Nat.le_trans hm.len (by omega)
    obtain ⟨sW, hsW⟩ : ∃ s : ByteArray, s = ⟨W.toArray⟩ := ⟨_, rfl⟩
    obtain ⟨Da, va, wa, Db, vb, wb, ha, hb, hd⟩ := htw
    have hbw := below_on HBl.out hbel
    have hwi := wire_any (Fresh Da wc) wc L1 G1 I1 va wa m 1073741824 NW (by rw [← hW, ← hNW]; omega) ha.open hm.fine.wire ha.fresh
    have HWi := Lib.hid (hwi.mono fun e w' h => h.t)
    have HM := Lib.hid hm
    have HW := Lib.hid hW
    have HNW := Lib.hid hNW
    have HsW := Lib.hid hsW
    have HA := Lib.hid ha
    have HB := Lib.hid hb
    have HD := Lib.hid hd
    have HBel := Lib.hid hbel
    clear hm hW hNW hsW ha hb hd hbel hbw hwi hi31
    go_wp2_with fail
    refine HWi.out.mono ?_
    rintro e w9 ⟨A9, c9, rfl, t9, hr9⟩
    obtain ⟨v9, vw9, ha9, hb9, hd9, hbel9, hz9, _⟩ := Two.exL HBel.out.size HA.out HB.out HD.out HBel.out t9
    have htk : m.wire.take NW = W := by rw [← HW.out, HNW.out, List.take_length]
    rw [htk] at hr9
    have hcv : (convert 31 9 (.slice A9 NW c9)).run Tryd.prog w9 = .ok (.string sW) w9 := by
      rw [HsW.out]
      exact run_str_of Tryd.underlying31 Tryd.underlying5 Tryd.underlying9 HNW.out hr9
    have hdr : ({ m with wire := m.wire.drop NW } : Lk) = { m with wire := [] } := by rw [← HW.out, HNW.out, List.drop_length]
    rw [hdr] at ha9
    have HT9 := Lib.hid (show Two wl.heap.size w9 L1 G1 I1 L2 G2 I2 { m with wire := [] } { m with wire := W.drop 0 } from ⟨_, _, _, _, _, _, ha9, by rw [List.drop_zero, HW.out]; exact hb9, hd9⟩)
    have HB9 := Lib.hid hbel9
    clear t9 hr9 htk hdr ha9 hb9 hd9 hbel9
    go_upto_block 2 with fail
    clear hcv
    go_cut [10] from 52 to 70 (fun pv wx => ∃ (k : Nat) (s : ByteArray), k ≤ NW ∧ pv = .string s ∧ s = ⟨(W.take k).toArray⟩ ∧ Two wl.heap.size wx L1 G1 I1 L2 G2 I2 { m with wire := [] } { m with wire := W.drop k } ∧ Below wl.heap.size wl wx)
    case first =>
      go_wp2_with fail
      go_loopw [10, 51] (fun pv iv wr => ∃ (i k : Nat) (s : ByteArray), i ≤ zs.length ∧ iv = .int .i64 i ∧ k ≤ NW ∧ pv = .string s ∧ s = ⟨(W.take k).toArray⟩ ∧ Two wl.heap.size wr L1 G1 I1 L2 G2 I2 { m with wire := [] } { m with wire := W.drop k } ∧ Below wl.heap.size wl wr) (fun _ iv _ => zs.length - (intOf iv).toNat)
      case atStart => exact ⟨0, 0, ⟨#[]⟩, Nat.zero_le _, rfl, Nat.zero_le _, rfl, rfl, HT9.out, HB9.out⟩
      case round =>
        obtain ⟨i, k, s, hi, rfl, hk, rfl, hs, htw, hbel⟩ := hrel
        have HS := Lib.hid hs
        have HT := Lib.hid htw
        have HBr := Lib.hid hbel
        have hbw := below_on HBl.out hbel
        by_cases hlz : i < zs.length
        · obtain ⟨zd, rfl, hzdb, hzc⟩ := (HZ.out.step hbw) (by intro e; have : zs = [] := List.map_eq_nil_iff.1 e; subst this; simp at hlz)
          have hzcell := hzc i (.int .i64 zs[i]) (by simp [hlz])
          generalize zs[i] = z at *
          have z0 : (0 : Int) ≤ (i : Int) := by omega
          have z1 : (i : Int) < (zs.length : Int) := by omega
          have z3 : IntKind.i64.wrap ((i : Int) + 1) = (i : Int) + 1 := IntWalk.i64_in _ (by omega)
          clear hzc
          by_cases h100 : 100 < i
          · have k0 : (100 : Int) < (i : Int) := by omega
            clear h100 hs htw hbel hbw
            go_wp2_with fail
            go_meet
            exact ⟨k, s, hk, rfl, HS.out, HT.out, HBr.out⟩
          · have k0 : ¬ (100 : Int) < (i : Int) := by omega
            obtain ⟨Da2, va2, wa2, Db2, vb2, wb2, ha2, hb2, hd2⟩ := htw
            have hwl : (W.drop k).length = NW - k := by rw [List.length_drop, HNW.out]
            obtain ⟨kk, hkk⟩ : ∃ kk : Nat, (kk : Int) = min (max z 0) ((W.drop k).length : Int) := ⟨(min (max z 0) ((W.drop k).length : Int)).toNat, by omega⟩
            have hwi := wire_any (Fresh Db2 wr) wr L2 G2 I2 vb2 wb2 { m with wire := W.drop k } z kk hkk hb2.open (by show (W.drop k).length ≤ _; omega) hb2.fresh
            have HWi2 := Lib.hid (hwi.mono fun e w' h => h.t)
            have hkl : kk ≤ NW - k := by omega
            have hkn : z < 0 → kk = 0 := by omega
            have hkp : ¬ z < 0 → (kk : Int) ≤ z := by omega
            have HA2 := Lib.hid ha2
            have HB2' := Lib.hid hb2
            have HD2 := Lib.hid hd2
            have htk : W.take k ++ (W.drop k).take kk = W.take (k + kk) := by rw [List.take_add]
            have HTk := Lib.hid htk
            have hlk : ((W.drop k).take kk).length = kk := by rw [List.length_take, hwl]; omega
            have HLk := Lib.hid hlk
            clear h100 hs hbel hbw ha2 hb2 hd2 hwi hkk hwl htk hlk
            by_cases hz : z < 0
            all_goals
              first | (have kz : ¬ 0 < kk := by have := hkn hz; omega) | (have kz : ¬ z < (kk : Int) := by have := hkp hz; omega)
              clear hkn hkp
              go_wp2_with fail
              refine HWi2.out.mono ?_
              rintro e w10 ⟨A10, c10, rfl, t10, hr10⟩
              obtain ⟨v10, vw10, ha10, hb10, hd10, hbel10, hz10, _⟩ := Two.exR HBr.out.size HA2.out HB2'.out HD2.out HBr.out t10
              obtain ⟨sp, hsp⟩ : ∃ sp : ByteArray, sp = ⟨((W.drop k).take kk).toArray⟩ := ⟨_, rfl⟩
              have hcv : (convert 31 9 (.slice A10 kk c10)).run Tryd.prog w10 = .ok (.string sp) w10 := by
                rw [hsp]
                exact run_str_of Tryd.underlying31 Tryd.underlying5 Tryd.underlying9 HLk.out.symm hr10
              have HT10 := Lib.hid (show Two wl.heap.size w10 L1 G1 I1 L2 G2 I2 { m with wire := [] } { m with wire := W.drop (k + kk) } from ⟨_, _, _, _, _, _, ha10, by rw [← List.drop_drop]; exact hb10, hd10⟩)
              have HB10 := Lib.hid hbel10
              have HSp := Lib.hid (show s ++ sp = ⟨(W.take (k + kk)).toArray⟩ by rw [HS.out, hsp, bytes_app, HTk.out])
              have hz5 : s.size ≤ 18817 := by rw [HS.out]; show (W.take k).toArray.size ≤ _; rw [List.size_toArray, List.length_take]; omega
              have hz6 : sp.size ≤ 18817 := by rw [hsp]; show ((W.drop k).take kk).toArray.size ≤ _; rw [List.size_toArray, HLk.out]; omega
              have hz7 : ¬ 9223372036854775807 < s.size + sp.size := by omega
              clear t10 hr10 ha10 hb10 hd10 hbel10 hsp
              go_wp2_with fail
              go_roundw
              case rel => exact ⟨i + 1, k + kk, _, by omega, by go_num, by omega, rfl, HSp.out, HT10.out, HB10.out⟩
              case measure => simp [intOf]; omega
        · have z1 : ¬ (i : Int) < (zs.length : Int) := by omega
          clear hs htw hbel hbw
          go_wp2_with fail
          go_meet
          exact ⟨k, s, hk, rfl, HS.out, HT.out, HBr.out⟩
    case rest =>
      obtain ⟨k, s, hk, rfl, hs, htw, hbel⟩ := hcut
      obtain ⟨Da2, va2, wa2, Db2, vb2, wb2, ha2, hb2, hd2⟩ := htw
      have hwl : (W.drop k).length = NW - k := by rw [List.length_drop, HNW.out]
      obtain ⟨kk, hkk⟩ : ∃ kk : Nat, kk = NW - k := ⟨_, rfl⟩
      have hwi := wire_any (Fresh Db2 wc) wc L2 G2 I2 vb2 wb2 { m with wire := W.drop k } 1073741824 kk (by show _ = min (max 1073741824 0) (((W.drop k).length : Nat) : Int); omega) hb2.open (by show (W.drop k).length ≤ _; omega) hb2.fresh
      have HWi2 := Lib.hid (hwi.mono fun e w' h => h.t)
      have HBr := Lib.hid hbel
      have HA2 := Lib.hid ha2
      have HB2' := Lib.hid hb2
      have HD2 := Lib.hid hd2
      have HS := Lib.hid hs
      have htk : (W.drop k).take kk = W.drop k := List.take_of_length_le (by omega)
      have hdk : (W.drop k).drop kk = [] := List.drop_eq_nil_of_le (by omega)
      have HTk := Lib.hid htk
      have HDk := Lib.hid hdk
      have hlk : (W.drop k).length = kk := by omega
      have HLk := Lib.hid hlk
      clear hbel ha2 hb2 hd2 hs hwi hkk hwl htk hdk hlk
      go_wp2_with fail
      refine HWi2.out.mono ?_
      rintro e w10 ⟨A10, c10, rfl, t10, hr10⟩
      obtain ⟨v10, vw10, ha10, hb10, hd10, hbel10, hz10, _⟩ := Two.exR HBr.out.size HA2.out HB2'.out HD2.out HBr.out t10
      rw [show ({ m with wire := W.drop k } : Lk).wire.take kk = W.drop k from HTk.out] at hr10
      obtain ⟨sp, hsp⟩ : ∃ sp : ByteArray, sp = ⟨(W.drop k).toArray⟩ := ⟨_, rfl⟩
      have hcv : (convert 31 9 (.slice A10 kk c10)).run Tryd.prog w10 = .ok (.string sp) w10 := by
        rw [hsp]
        exact run_str_of Tryd.underlying31 Tryd.underlying5 Tryd.underlying9 HLk.out.symm hr10
      have hz5 : s.size ≤ 18817 := by rw [HS.out]; show (W.take k).toArray.size ≤ _; rw [List.size_toArray, List.length_take]; omega
      have hz6 : sp.size ≤ 18817 := by rw [hsp]; show (W.drop k).toArray.size ≤ _; rw [List.size_toArray, HLk.out]; have := HLk.out; rw [List.length_drop] at this; have := HNW.out; omega
      have hz7 : ¬ 9223372036854775807 < s.size + sp.size := by omega
      have hss : s ++ sp = sW := by rw [HS.out, hsp, bytes_app, List.take_append_drop, HsW.out]
      have hdo := down_any (Fresh Da2 w10) w10 L1 G1 I1 va2 wa2 { m with wire := [] } 3 ha10.open ha10.fresh
      have HDo := Lib.hid hdo
      have HA10 := Lib.hid ha10
      have HB10 := Lib.hid (show Own wl.heap.size (Next Db2 wc w10) w10 L2 G2 I2 v10 vw10 { m with wire := [] } from by
        have h := hb10
        rw [show ({ m with wire := ({ m with wire := W.drop k } : Lk).wire.drop kk } : Lk) = { m with wire := [] } by show ({ m with wire := (W.drop k).drop kk } : Lk) = _; rw [HDk.out]] at h
        exact h)
      have HD10 := Lib.hid hd10
      have HBe10 := Lib.hid hbel10
      clear t10 hr10 ha10 hb10 hd10 hbel10 hsp hdo
      go_wp2_with fail
      try rw [hss]
      refine HDo.out.mono ?_
      rintro e w11 ⟨rfl, t11⟩
      obtain ⟨v11, vw11, ha11, hb11, hd11, hbel11, hz11, _⟩ := Two.exL HBe10.out.size HA10.out HB10.out HD10.out HBe10.out t11
      have hmd : (({ m with wire := [] } : Lk).down 3) = { m with up := false, since := 3, wire := [] } := Lk.down_up _ _ HM.out.up
      rw [hmd] at ha11
      have HPe := Lib.hid (show Calls Tryd.prog 41 #[.pointer (some ⟨L1, 0, none⟩)] w11 (ValP w11 (.int .i64 0)) from pending_any _ w11 L1 G1 I1 _ _ { m with up := false, since := 3, wire := [] } ha11.at_)
      have HA11 := Lib.hid ha11
      have HB11 := Lib.hid hb11
      have HD11 := Lib.hid hd11
      have HBe11 := Lib.hid hbel11
      clear t11 ha11 hb11 hd11 hbel11 hmd hcv hz5 hz6 hz7
      go_wp2_with fail
      refine HPe.out.mono ?_
      rintro e w12 hv12
      obtain ⟨rfl, hb12⟩ := hv12.below
      have hbel12 := below_on HBe11.out hb12
      have ha12 := HA11.out.on hb12
      have hfm : ({ m with up := false, since := 3, wire := [] } : Lk).fine := ⟨HM.out.fine.o, HM.out.fine.got, HM.out.fine.told, by simp⟩
      have hup := up_any es _ w12 L1 G1 I1 _ _ { m with up := false, since := 3, wire := [] } 0 wl (HE.out.r.step HBl.out) hbel12 (ha12.low hbel12.size) ha12.open hfm (by show m.o.acked ≤ 0; rw [HM.out.acked]; exact Nat.le_refl _) (Nat.zero_le _) ha12.fresh
      have hra : ({ m with up := false, since := 3, wire := [] } : Lk).raise 0 = { m with told := m.got, since := 3 } := by
        have h := HM.out.again 3
        rw [show ({ m with wire := m.wire.drop m.wire.length } : Lk) = { m with wire := [] } by rw [List.drop_length], Lk.down_up { m with wire := [] } 3 HM.out.up] at h
        exact h
      rw [hra] at hup
      have HUp3 := Lib.hid (show Calls Tryd.prog 43 #[.pointer (some ⟨L1, 0, none⟩), .int .i64 0] w12 _ from hup)
      have HA12 := Lib.hid ha12
      have HB12 := Lib.hid (HB11.out.on hb12)
      have HBe12 := Lib.hid hbel12
      clear hv12 hb12 hbel12 ha12 hfm hup hra
      go_wp2_with fail
      refine HUp3.out.mono ?_
      rintro e w13 ⟨rfl, t13⟩
      obtain ⟨v13, vw13, ha13, hb13, hd13, hbel13, hz13, _⟩ := Two.exL HBe12.out.size HA12.out HB12.out HD11.out HBe12.out t13
      have hwi := wire_any (Fresh _ w13) w13 L1 G1 I1 v13 vw13 { m with told := m.got, since := 3 } 1073741824 NW (by show _ = min (max 1073741824 0) ((m.wire.length : Nat) : Int); rw [← HW.out, ← HNW.out]; omega) ha13.open HM.out.fine.wire ha13.fresh
      have HWi4 := Lib.hid (hwi.mono fun e w' h => h.t)
      have HA13 := Lib.hid ha13
      have HB13 := Lib.hid hb13
      have HD13 := Lib.hid hd13
      have HBe13 := Lib.hid hbel13
      clear t13 ha13 hb13 hd13 hbel13 hwi
      go_wp2_with fail
      refine HWi4.out.mono ?_
      rintro e w14 ⟨A14, c14, rfl, t14, hr14⟩
      obtain ⟨v14, vw14, ha14, hb14, hd14, hbel14, hz14, _⟩ := Two.exL HBe13.out.size HA13.out HB13.out HD13.out HBe13.out t14
      have htk : ({ m with told := m.got, since := 3 } : Lk).wire.take NW = W := by show m.wire.take NW = W; rw [← HW.out, HNW.out, List.take_length]
      rw [htk] at hr14
      have hcv : (convert 31 9 (.slice A14 NW c14)).run Tryd.prog w14 = .ok (.string sW) w14 := by
        rw [HsW.out]
        exact run_str_of Tryd.underlying31 Tryd.underlying5 Tryd.underlying9 HNW.out hr14
      have HPe2 := Lib.hid (show Calls Tryd.prog 41 #[.pointer (some ⟨L2, 0, none⟩)] w14 (ValP w14 (.int .i64 0)) from pending_any _ w14 L2 G2 I2 _ _ { m with wire := [] } hb14.at_)
      have HBe14 := Lib.hid hbel14
      clear t14 hr14 ha14 hb14 hd14 hbel14 htk
      go_wp2_with fail
      refine HPe2.out.mono ?_
      rintro e w15 hv15
      obtain ⟨rfl, hb15⟩ := hv15.below
      go_wp2_with fail
      go_ret
      exact ⟨rfl, below_on HBl.out (below_on HBe14.out hb15)⟩
end Go.Proofs.YtipgimmgjdgdeaaDoor
