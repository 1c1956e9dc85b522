/- Walk of the statement ReplayRoom. -/
import Derived.Test.YtipgimmgjdgdeaaDoorJl
set_option linter.unusedVariables false
set_option linter.unusedSimpArgs false
set_option linter.unnecessarySimpa false
namespace Go.Proofs.YtipgimmgjdgdeaaDoor
open Go.RowKit
attribute [local go_sem] run_store_flt

def longF (f : Fr) : Bool := decide (2000 < f.bytes.length) || (decide (2000 < f.name.size) || decide (2000 < f.who.size))
set_option maxHeartbeats 1600000 in
theorem long_any (f : Fr) (A : Option Addr) (c : Nat) (w : World) (hl : f.lens) : Calls Tryd.prog 15 #[frV f A c] w (BoolP (longF f) w) := by
  obtain ⟨w1, hw1, hb1, hs1, hf1⟩ := box_world w f A c
  have HB1 := Lib.hid hb1
  have HW1 := Lib.hid hw1.symm
  have h1 := hl.who
  have h2 := hl.name
  have h3 := hl.bytes
  obtain ⟨c0, c1, c2, c3, c4, c5, c6, c7, c8, c9⟩ := hf1
  have HV := Lib.hid (show longF f = (decide (2000 < f.bytes.length) || (decide (2000 < f.name.size) || decide (2000 < f.who.size))) from rfl)
  clear hw1 hb1 hs1
  unfold frV
  simp only [frCs] at HW1
  go_enter Tryd.func15, Tryd.ntmps15
  by_cases k1 : 2000 < f.bytes.length
  · have m1 : (2000 : Int) < (f.bytes.length : Int) := by omega
    have HL := Lib.hid (show longF f = true by rw [HV.out, decide_eq_true k1]; rfl)
    clear k1
    go_wp2_with (rw [HW1.out])
    go_ret
    exact ⟨by rw [HL.out]; rfl, HB1.out⟩
  · have m1 : ¬ (2000 : Int) < (f.bytes.length : Int) := by omega
    by_cases k2 : 2000 < f.name.size
    · have m2 : (2000 : Int) < (f.name.size : Int) := by omega
      have HL := Lib.hid (show longF f = true by rw [HV.out, decide_eq_true k2, decide_eq_false k1]; rfl)
      clear k1 k2
      go_wp2_with (rw [HW1.out])
      go_ret
      exact ⟨by rw [HL.out]; rfl, HB1.out⟩
    · have m2 : ¬ (2000 : Int) < (f.name.size : Int) := by omega
      by_cases k3 : 2000 < f.who.size
      · have m3 : (2000 : Int) < (f.who.size : Int) := by omega
        have HL := Lib.hid (show longF f = true by rw [HV.out, decide_eq_true k3, decide_eq_false k1, decide_eq_false k2]; rfl)
        clear k1 k2 k3
        go_wp2_with (rw [HW1.out])
        go_ret
        exact ⟨by rw [HL.out]; rfl, HB1.out⟩
      · have m3 : ¬ (2000 : Int) < (f.who.size : Int) := by omega
        have HL := Lib.hid (show longF f = false by rw [HV.out, decide_eq_false k3, decide_eq_false k1, decide_eq_false k2]; rfl)
        clear k1 k2 k3
        go_wp2_with (rw [HW1.out])
        go_ret
        exact ⟨by rw [HL.out]; rfl, HB1.out⟩
theorem longF_no {f : Fr} (h : longF f = false) : f.bytes.length ≤ 2000 := by
  unfold longF at h
  simp at h
  omega
theorem err_ne {W : World} {a b : Addr} {s u : ByteArray} {t t' : List UInt8} (ca : W.cell? a = some (.string s)) (ts : s.data.toList = t) (cb : W.cell? b = some (.string u)) (tu : u.data.toList = t') (h : t ≠ t') : a ≠ b := fun e => by
  subst e
  rw [ca] at cb
  cases cb
  exact h (ts.symm.trans tu)
theorem run_frame_full {es : Er → Addr} {w : World} (h : REnv w es) (hne : es .frame ≠ es .full) : (binOp .eql 35 (.iface 160 (.pointer (some (es .frame)))) (.iface 160 (.pointer (some (es .full))))).run Tryd.prog w = .ok (.bool false) w := by
  obtain ⟨i, hi, hc⟩ := Option.map_eq_some_iff.1 infoErr
  obtain ⟨j, hj, hs⟩ := Option.map_eq_some_iff.1 infoErrS
  obtain ⟨c1, t1, h1⟩ := h.fenv.frame.obj
  obtain ⟨c2, t2, h2⟩ := h.full.obj
  exact run_eql_iface_ptr_other w Tryd.underlying35 Tryd.underlying160 hi hc hj (by rw [hs]; decide) hne h1 h2
theorem OutAt.then {base : Nat} {w w' w0 : World} {G : Nat} {v : Value} {o : Ro} (s : OutAt (base ≤ ·) w G v o) (h : Chg (OutS G v) w w') (hb : Below base w0 w) (hz : base ≤ w.heap.size) : Below base w0 w' :=
  hb.trans (h.below hz (fun i hi e => by
    rcases e with rfl | e
    · exact s.le
    · exact (s.ltB i e.symm).1))
/-- All is acked. -/
theorem Ro.ack_all (o : Ro) : (o.ack o.last).held = [] ∧ (o.ack o.last).last = o.last := by
  refine ⟨?_, Ro.ack_last (Nat.le_refl _)⟩
  unfold Ro.ack Ro.last
  simp
theorem Ro.ack_room {o : Ro} {f : Fr} (h : o.may f = some .full) : (o.ack o.last).may f = none := by
  rcases Ro.may_no h with ⟨h1, _⟩ | ⟨_, h1, h2, h3⟩
  · cases h1
  · have ha : (o.ack o.last).as f = o.as f := by unfold Ro.as; rw [(Ro.ack_all o).2]
    have hz := (sizeF_in h1).2
    unfold Ro.may
    rw [ha, if_pos ⟨h1, h2⟩, if_pos]
    unfold Ro.bytes
    rw [(Ro.ack_all o).1]
    simp [sizes]
    omega
theorem Ro.ack_zero (o : Ro) : (o.ack o.last).bytes = 0 := by
  unfold Ro.bytes
  rw [(Ro.ack_all o).1]
  rfl
set_option maxRecDepth 8000 in
set_option maxHeartbeats 6400000 in
theorem room_walk (es : Er → Addr) (w : World) (A : Option Addr) (c : Nat) (fs : List Fr) (hE : REnv w es) (hne : es .frame ≠ es .full) (hR : RdFs w A fs) (hl : ∀ f ∈ fs, f.lens) (hc : fs.length ≤ 9223372036854775807) :
    Calls Tryd.prog 6 #[.slice A fs.length c] w (OkPost w) := by
  have HAl := Lib.hid (alive11 es w hE)
  have HE := Lib.hid hE
  have HR := Lib.hid hR
  have HLs := Lib.hid hl
  have hee := run_err_same
  have hnil : ∀ (x : Addr) (W : World), (binOp .eql 35 .nilIface (.iface 160 (.pointer (some x)))).run Tryd.prog W = .ok (.bool false) W := fun x W => run_eql_iface_nil_left _ _ _ Tryd.underlying35
  clear hE hR hl
  go_enter Tryd.func6, Tryd.ntmps6
  go_wp2_with fail
  refine HAl.out.mono ?_
  rintro e w1 ⟨rfl, hb1⟩
  have HB1 := Lib.hid hb1
  have HNo := Lib.hid (newOut_any w1)
  have hz1 : w.heap.size ≤ w1.heap.size := hb1.size
  clear hb1
  go_wp2_with fail
  refine HNo.out.mono ?_
  rintro e w2 ⟨rfl, hb2, hs2, ho2⟩
  have HO2 := Lib.hid ho2
  have HB2 := Lib.hid hb2
  clear hb2 ho2
  go_wp2_with fail
  go_loopw [15] (fun iv wr => ∃ (i : Nat) (v : Value) (o : Ro), i ≤ fs.length ∧ iv = .int .i64 i ∧ OutAt (w1.heap.size ≤ ·) wr w1.heap.size v o ∧ o.fine ∧ Below w1.heap.size w1 wr) (fun iv _ => fs.length - (intOf iv).toNat)
  case atStart => exact ⟨0, _, ⟨[], 0⟩, Nat.zero_le _, rfl, HO2.out, Ro.fine.new, HB2.out⟩
  case round =>
    obtain ⟨i, v, o, hi, rfl, ho, hfn, hbel⟩ := hrel
    have HO := Lib.hid ho
    have HFn := Lib.hid hfn
    have HBel := Lib.hid hbel
    have hBw := below_on HB1.out hbel
    have HBw := Lib.hid hBw
    have hzr := hbel.size
    by_cases hlt : i < fs.length
    · obtain ⟨ad, A1, c1, rfl, hadb0, hfr0, hr0⟩ := HR.out.at i hlt
      have hadb : ad.block < wr.heap.size := Nat.lt_of_lt_of_le hadb0 hBw.size
      have hfr := hfr0.move (w' := wr) (hBw.block _ (by rw [add_block]; exact hadb0))
      have hr := hr0.step hBw
      have hlf := HLs.out _ (List.getElem_mem hlt)
      generalize fs[i] = f at *
      obtain ⟨w3, hw3⟩ : ∃ W, W = wr.alloc (Obj.cells #[.int .i64 f.kind, .int .i64 f.seq, .int .i64 f.got, .int .i64 f.stream, .int .i64 f.amount, .int .i64 f.code, .string f.who, .string f.name, .float .f64 f.weight, .slice A1 f.bytes.length c1] 33) := ⟨_, rfl⟩
      have hb3 : Below wr.heap.size wr w3 := by rw [hw3]; exact below_box _ _
      have HF3 := Lib.hid (show FrC w3 wr.heap.size f A1 c1 by rw [hw3]; exact FrC.box wr f A1 c1 _)
      have hs3 : w3.heap.size = wr.heap.size + 1 := by rw [hw3]; simp
      have HB3 := Lib.hid (hbel.trans (hb3.mono hzr))
      have HO3 := Lib.hid (ho.on hb3)
      have HR3 := Lib.hid (hr.step hb3)
      have HW3 := Lib.hid hw3.symm
      have HLf := Lib.hid hlf
      have HRw := Lib.hid hr0
      have HLo := Lib.hid (long_any f A1 c1 w3 hlf)
      obtain ⟨a0, a1, a2, a3, a4, a5, a6, a7, a8, a9⟩ := hfr
      obtain ⟨d0, d1, d2, d3, d4, d5, d6, d7, d8, d9⟩ := HF3.out
      have j0 : (0 : Int) ≤ (i : Int) := by omega
      have j1 : (i : Int) < (fs.length : Int) := by omega
      have j3 : IntKind.i64.wrap ((i : Int) + 1) = (i : Int) + 1 := IntWalk.i64_in _ (by omega)
      have hcb1 : (ad.add (i * 10)).block < wr.heap.size := by rw [add_block]; exact hadb
      have hlt3 : wr.heap.size < w3.heap.size := by omega
      unfold frV at HLo
      clear hb3 hw3 hr hr0 hfr0 hbel hBw ho hfn hlf
      by_cases h200 : 200 < i
      · have k0 : (200 : Int) < (i : Int) := by omega
        clear h200
        go_wp2_with (rw [HW3.out])
        go_ret
        exact ⟨rfl, below_on HB1.out HB3.out⟩
      · have k0 : ¬ (200 : Int) < (i : Int) := by omega
        clear h200
        go_wp2_with (rw [HW3.out])
        refine HLo.out.mono ?_
        rintro e w4 ⟨rfl, hb4⟩
        have HB4 := Lib.hid (HB3.out.trans (hb4.mono HB3.out.size))
        have HO4 := Lib.hid (HO3.out.on hb4)
        have HF4 := Lib.hid (HF3.out.on hlt3 hb4)
        have HR4 := Lib.hid (HR3.out.step hb4)
        have hlt4 : wr.heap.size < w4.heap.size := by have := hb4.size; omega
        clear hb4 a0 a1 a2 a3 a4 a5 a6 a7 a8 a9 d0 d1 d2 d3 d4 d5 d6 d7 d8 d9
        cases hlg : longF f with
        | true =>
          clear hlg
          go_wp2_with fail
          go_ret
          exact ⟨rfl, below_on HB1.out HB4.out⟩
        | false =>
          have hbl := longF_no hlg
          have hfi := rfits_any es (w1.heap.size ≤ ·) w4 w1.heap.size v o f A1 c1 (HE.out.step (below_on HB1.out HB4.out)) HO4.out HFn.out HLf.out HR4.out (by omega)
          have hll := HFn.out.last
          obtain ⟨d0, d1, d2, d3, d4, d5, d6, d7, d8, d9⟩ := HF4.out
          cases hm : o.may f with
          | none =>
            rw [hm] at hfi
            have HFi := Lib.hid hfi
            have HM := Lib.hid hm
            clear hfi hlg hm
            unfold frV at HFi
            go_wp2_with fail
            refine HFi.out.mono ?_
            rintro e w5 ⟨rfl, hb5⟩
            have HB5 := Lib.hid (HB4.out.trans (hb5.mono HB4.out.size))
            have HO5 := Lib.hid (HO4.out.on hb5)
            have HF5 := Lib.hid (HF4.out.on hlt4 hb5)
            have HR5 := Lib.hid (HR4.out.step hb5)
            have HLa := Lib.hid (last_any _ w5 _ v o HO5.out HFn.out)
            have hlt5 : wr.heap.size < w5.heap.size := by have := hb5.size; omega
            clear hb5 d0 d1 d2 d3 d4 d5 d6 d7 d8 d9
            go_wp2_with fail
            refine HLa.out.mono ?_
            rintro e w6 hv6
            obtain ⟨rfl, hb6⟩ := hv6.below
            have HB6 := Lib.hid (HB5.out.trans (hb6.mono HB5.out.size))
            have HO6 := Lib.hid (HO5.out.on hb6)
            have hr6 := HR5.out.step hb6
            have hlt6 : wr.heap.size < w6.heap.size := by have := hb6.size; omega
            obtain ⟨d0, d1, d2, d3, d4, d5, d6, d7, d8, d9⟩ := HF5.out.on hlt5 hb6
            have hpu := (push_any es (w1.heap.size ≤ ·) w6 w1.heap.size v o f A1 c1 (HE.out.step (below_on HB1.out HB6.out)) HO6.out HFn.out HLf.out hr6 (by omega) (fun k hk => Nat.le_trans HB6.out.size hk)).mono fun e w' h => h.ok HM.out
            have HPu := Lib.hid hpu
            clear hb6 hv6 hr6 hpu
            unfold frV at HPu
            go_wp2_with fail
            refine HPu.out.mono ?_
            rintro e w7 ⟨A7, c7, v7, rfl, hr7, ho7, hch7, _⟩
            have hb7 := HO6.out.then hch7 HB6.out HB6.out.size
            have hfp := HFn.out.push HM.out
            obtain ⟨w8, hw8⟩ : ∃ W, W = w7.alloc (Obj.cells #[.int .i64 (o.as f).kind, .int .i64 (o.as f).seq, .int .i64 (o.as f).got, .int .i64 (o.as f).stream, .int .i64 (o.as f).amount, .int .i64 (o.as f).code, .string (o.as f).who, .string (o.as f).name, .float .f64 (o.as f).weight, .slice A7 (o.as f).bytes.length c7] 33) := ⟨_, rfl⟩
            have hb8 : Below w7.heap.size w7 w8 := by rw [hw8]; exact below_box _ _
            have HB8 := Lib.hid (hb7.trans (hb8.mono hb7.size))
            have HO8 := Lib.hid (ho7.on hb8)
            have HW8 := Lib.hid hw8.symm
            have HFp := Lib.hid hfp
            have HBy := Lib.hid (obytes_any _ w8 _ v7 (o.push f) HO8.out)
            have hpb : (o.push f).bytes ≤ 8192 := hfp.room
            have hpl : (o.push f).last = o.last + 1 := Ro.push_last o f
            have k1 : ¬ (8192 : Int) < ((o.push f).bytes : Int) := by omega
            have j5 : IntKind.i64.wrap ((o.last : Int) + 1) = (o.last : Int) + 1 := IntWalk.i64_in _ (by omega)
            clear hw8 hb8 hb7 hfp hr7 ho7 hch7 d0 d1 d2 d3 d4 d5 d6 d7 d8 d9
            go_wp2_with (rw [HW8.out])
            refine HBy.out.mono ?_
            rintro e w9 hv9
            obtain ⟨rfl, hb9⟩ := hv9.below
            have HB9 := Lib.hid (HB8.out.trans (hb9.mono HB8.out.size))
            have HO9 := Lib.hid (HO8.out.on hb9)
            have hla9 := last_any _ w9 _ v7 (o.push f) HO9.out HFp.out
            rw [hpl] at hla9
            have HLa9 := Lib.hid hla9
            clear hb9 hv9 hla9 hpl
            go_wp2_with fail
            refine HLa9.out.mono ?_
            rintro e w10 hv10
            obtain ⟨rfl, hb10⟩ := hv10.below
            have HB10 := Lib.hid (HB9.out.trans (hb10.mono HB9.out.size))
            have HO10 := Lib.hid (HO9.out.on hb10)
            have he := (HE.out.step (below_on HB1.out HB10.out)).full.at
            unfold errV at he
            have hni := hnil (es .full) w10
            clear hb10 hv10
            go_wp2_with fail
            go_roundw
            case rel => exact ⟨i + 1, v7, o.push f, by omega, by go_num, HO10.out, HFp.out, HB10.out⟩
            case measure => simp [intOf]; omega
          | some er =>
            rw [hm] at hfi
            have HFi := Lib.hid hfi
            have HM := Lib.hid hm
            clear hfi hlg hm
            unfold frV at HFi
            go_wp2_with fail
            refine HFi.out.mono ?_
            rintro e w5 ⟨rfl, hb5⟩
            have HB5 := Lib.hid (HB4.out.trans (hb5.mono HB4.out.size))
            have HO5 := Lib.hid (HO4.out.on hb5)
            have HF5 := Lib.hid (HF4.out.on hlt4 hb5)
            have HR5 := Lib.hid (HR4.out.step hb5)
            have HLa := Lib.hid (last_any _ w5 _ v o HO5.out HFn.out)
            have hlt5 : wr.heap.size < w5.heap.size := by have := hb5.size; omega
            clear hb5 d0 d1 d2 d3 d4 d5 d6 d7 d8 d9
            go_wp2_with fail
            refine HLa.out.mono ?_
            rintro e w6 hv6
            obtain ⟨rfl, hb6⟩ := hv6.below
            have HB6 := Lib.hid (HB5.out.trans (hb6.mono HB5.out.size))
            have HO6 := Lib.hid (HO5.out.on hb6)
            have hr6 := HR5.out.step hb6
            have HR6 := Lib.hid hr6
            have hlt6 : wr.heap.size < w6.heap.size := by have := hb6.size; omega
            have HF6 := Lib.hid (HF5.out.on hlt5 hb6)
            obtain ⟨d0, d1, d2, d3, d4, d5, d6, d7, d8, d9⟩ := HF6.out
            have hpu := (push_any es (w1.heap.size ≤ ·) w6 w1.heap.size v o f A1 c1 (HE.out.step (below_on HB1.out HB6.out)) HO6.out HFn.out HLf.out hr6 (by omega) (fun k hk => Nat.le_trans HB6.out.size hk)).mono fun e w' h => h.er HM.out
            have HPu := Lib.hid hpu
            clear hb6 hv6 hr6 hpu
            unfold frV at HPu
            go_wp2_with fail
            refine HPu.out.mono ?_
            rintro e w7 ⟨rfl, hb7⟩
            obtain ⟨w8, hw8⟩ : ∃ W, W = w7.alloc (Obj.cells #[.int .i64 0, .int .i64 0, .int .i64 0, .int .i64 0, .int .i64 0, .int .i64 0, .string ⟨#[]⟩, .string ⟨#[]⟩, .float .f64 0, .slice none 0 0] 33) := ⟨_, rfl⟩
            have hb78 : Below w7.heap.size w7 w8 := by rw [hw8]; exact below_box _ _
            have hb68 : Below w6.heap.size w6 w8 := hb7.trans (hb78.mono hb7.size)
            have HB8 := Lib.hid (HB6.out.trans (hb68.mono HB6.out.size))
            have HO8 := Lib.hid (HO6.out.on hb68)
            have HF8 := Lib.hid (HF6.out.on hlt6 hb68)
            have HR8 := Lib.hid (HR6.out.step hb68)
            have hlt8 : wr.heap.size < w8.heap.size := by have := hb68.size; omega
            have HW8 := Lib.hid hw8.symm
            have HBy := Lib.hid (obytes_any _ w8 _ v o HO8.out)
            have hpb : o.bytes ≤ 8192 := HFn.out.room
            have k1 : ¬ (8192 : Int) < (o.bytes : Int) := by omega
            clear hw8 hb78 hb68 hb7 d0 d1 d2 d3 d4 d5 d6 d7 d8 d9
            simp only [Fr.of, noS, List.length_nil, errV]
            go_wp2_with fail
            rw [HW8.out]
            refine HBy.out.mono ?_
            rintro e w9 hv9
            obtain ⟨rfl, hb9⟩ := hv9.below
            have HB9 := Lib.hid (HB8.out.trans (hb9.mono HB8.out.size))
            have HO9 := Lib.hid (HO8.out.on hb9)
            have HF9 := Lib.hid (HF8.out.on hlt8 hb9)
            have HR9 := Lib.hid (HR8.out.step hb9)
            have hlt9 : wr.heap.size < w9.heap.size := by have := hb9.size; omega
            have HLa9 := Lib.hid (last_any _ w9 _ v o HO9.out HFn.out)
            clear hb9 hv9
            go_wp2_with fail
            refine HLa9.out.mono ?_
            rintro e w10 hv10
            obtain ⟨rfl, hb10⟩ := hv10.below
            have HB10 := Lib.hid (HB9.out.trans (hb10.mono HB9.out.size))
            have HO10 := Lib.hid (HO9.out.on hb10)
            have HF10 := Lib.hid (HF9.out.on hlt9 hb10)
            have HR10 := Lib.hid (HR9.out.step hb10)
            have hlt10 : wr.heap.size < w10.heap.size := by have := hb10.size; omega
            have he := (HE.out.step (below_on HB1.out HB10.out)).full.at
            unfold errV at he
            clear hb10 hv10
            rcases Ro.may_no HM.out with ⟨rfl, _⟩ | ⟨rfl, _⟩
            · have hoth := run_frame_full (HE.out.step (below_on HB1.out HB10.out)) hne
              go_wp2_with fail
              go_roundw
              case rel => exact ⟨i + 1, v, o, by omega, by go_num, HO10.out, HFn.out, HB10.out⟩
              case measure => simp [intOf]; omega
            · have HLa10 := Lib.hid (last_any _ w10 _ v o HO10.out HFn.out)
              go_wp2_with fail
              refine HLa10.out.mono ?_
              rintro e w11 hv11
              obtain ⟨rfl, hb11⟩ := hv11.below
              have HB11 := Lib.hid (HB10.out.trans (hb11.mono HB10.out.size))
              have HO11 := Lib.hid (HO10.out.on hb11)
              have HF11 := Lib.hid (HF10.out.on hlt10 hb11)
              have HR11 := Lib.hid (HR10.out.step hb11)
              have hlt11 : wr.heap.size < w11.heap.size := by have := hb11.size; omega
              have hak := (ack_any es (w1.heap.size ≤ ·) w11 w1.heap.size v o (o.last : Nat) (HE.out.step (below_on HB1.out HB11.out)) HO11.out HFn.out).mono fun e w' h => h.1 ⟨by omega, Int.le_refl _⟩
              have HAk := Lib.hid hak
              clear hb11 hv11 hak he
              go_wp2_with fail
              refine HAk.out.mono ?_
              rintro e w12 ⟨rfl, hch12, v12, ho12, _⟩
              have HO12 := Lib.hid (show OutAt (w1.heap.size ≤ ·) w12 w1.heap.size v12 (o.ack o.last) from ho12)
              have hb12 : Below w1.heap.size w1 w12 := HB11.out.trans (hch12.below HB11.out.size (fun i hi e => by rw [e]; exact Nat.le_refl _))
              have HB12 := Lib.hid hb12
              have HF12 := Lib.hid (HF11.out.move (hch12.block wr.heap.size hlt11 (by show ¬ wr.heap.size = w1.heap.size; have := HO.out.lt; omega)))
              have HR12 := Lib.hid ((HRw.out.step (below_on HB1.out hb12)))
              have hlt12 : wr.heap.size < w12.heap.size := by have := hch12.size; omega
              have hfa := HFn.out.ack (Nat.le_refl o.last)
              have HFa := Lib.hid hfa
              have hby := obytes_any _ w12 _ v12 (o.ack o.last) HO12.out
              rw [Ro.ack_zero] at hby
              have HBy12 := Lib.hid hby
              clear hch12 ho12 hb12 hfa hby
              go_wp2_with fail
              refine HBy12.out.mono ?_
              rintro e w13 hv13
              obtain ⟨rfl, hb13⟩ := hv13.below
              have HB13 := Lib.hid (HB12.out.trans (hb13.mono HB12.out.size))
              have HO13 := Lib.hid (HO12.out.on hb13)
              obtain ⟨d0, d1, d2, d3, d4, d5, d6, d7, d8, d9⟩ := HF12.out.on hlt12 hb13
              have hfi := rfits_any es (w1.heap.size ≤ ·) w13 w1.heap.size v12 (o.ack o.last) f A1 c1 (HE.out.step (below_on HB1.out HB13.out)) HO13.out HFa.out HLf.out (HR12.out.step hb13) (by omega)
              rw [Ro.ack_room HM.out] at hfi
              have HFi13 := Lib.hid hfi
              have hlt13 : wr.heap.size < w13.heap.size := by have := hb13.size; omega
              clear hb13 hv13 hfi
              unfold frV at HFi13
              go_wp2_with fail
              refine HFi13.out.mono ?_
              rintro e w14 ⟨rfl, hb14⟩
              have HB14 := Lib.hid (HB13.out.trans (hb14.mono HB13.out.size))
              have HO14 := Lib.hid (HO13.out.on hb14)
              clear hb14 d0 d1 d2 d3 d4 d5 d6 d7 d8 d9
              go_wp2_with fail
              go_roundw
              case rel => exact ⟨i + 1, v12, o.ack o.last, by omega, by go_num, HO14.out, HFa.out, HB14.out⟩
              case measure => simp [intOf]; omega
    · have hii : i = fs.length := by omega
      have j1 : ¬ (i : Int) < (fs.length : Int) := by omega
      clear hbel hBw ho hfn
      go_wp2_with fail
      go_ret
      exact ⟨rfl, HBw.out⟩
end Go.Proofs.YtipgimmgjdgdeaaDoor
