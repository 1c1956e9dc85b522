/- Walk of the statement LinkDeaf. -/
import Derived.Test.YtipgimmgjdgdeaaDoorKi
import Derived.Deep.CutBlock
set_option linter.unusedVariables false
set_option linter.unusedSimpArgs false
set_option linter.unnecessarySimpa false
namespace Go.Proofs.YtipgimmgjdgdeaaDoor
open Go.RowKit
attribute [local go_sem] run_store_flt

theorem run_err_neqK (a : Addr) (w : World) : (binOp .neq 35 (.iface 160 (.pointer (some a))) (.iface 160 (.pointer (some a)))).run Tryd.prog w = .ok (.bool false) w := by
  obtain ⟨i, hi, hc⟩ := Option.map_eq_some_iff.1 infoErr
  obtain ⟨j, hj, hs⟩ := Option.map_eq_some_iff.1 infoErrS
  simp only [binOp]
  simp [Op.equal, Op.maxDepth, run_equalIn_iface_ptr_same w 9998 a Tryd.underlying35 Tryd.underlying160 hi hc hj]
/-- A link that is down: what it holds. -/
def lkD (o : Ro) : Lk := ⟨o, 0, [], false, 0, 0⟩
theorem lkD_push (o : Ro) (f : Fr) : (lkD o).push f = lkD (o.push f) := rfl
theorem lkD_tell (o : Ro) : (lkD o).tell = lkD o := rfl
theorem lkD_fine {o : Ro} (h : o.fine) : (lkD o).fine := ⟨h, by simp [lkD], Nat.le_refl _, by simp [lkD]⟩
theorem flat_sizes : ∀ (l : List Fr), (∀ f ∈ l, checkF f = true) → (l.flatMap wireF).length = sizes l
  | [], _ => rfl
  | f :: l, h => by
    have h1 := flat_sizes l (fun g hg => h g (List.mem_cons_of_mem _ hg))
    rw [List.flatMap_cons, List.length_append, h1, wireF_ok (h f (List.mem_cons_self ..))]
    simp [sizes, sizeF]
theorem lkD_raise {o : Ro} (h : o.fine) (ha : o.acked = 0) : ((lkD o).raise 0).wire.length = o.bytes ∧ ((lkD o).raise 0).o = o := by
  obtain ⟨hh, a⟩ := o
  simp only at ha
  subst ha
  refine ⟨?_, ?_⟩
  · show ((hh.drop (0 - 0)).flatMap wireF).length = sizes hh
    rw [Nat.sub_zero, List.drop_zero]
    exact flat_sizes hh (fun f hf => (h.ok f hf).1)
  · show (⟨hh.drop (0 - 0), max 0 0⟩ : Ro) = _
    simp
theorem bytes_pos {o : Ro} (h : o.fine) : 0 < o.bytes ↔ 0 < o.held.length := by
  have h1 := sizes_ge o.held (fun f hf => (h.ok f hf).1)
  unfold Ro.bytes
  constructor
  · intro h2
    rcases Nat.eq_zero_or_pos o.held.length with h3 | h3
    · have h4 : o.held = [] := List.length_eq_zero_iff.1 h3
      rw [h4] at h2
      simp [sizes] at h2
    · exact h3
  · intro h2; omega
def DeafRel (B : Nat) (w0 : World) (L G I : Nat) (nv : Value) (wx : World) : Prop :=
  ∃ (o : Ro) (D : Nat → Prop) (v vw : Value), nv = .int .i64 (o.held.length : Nat) ∧ o.acked = 0 ∧ o.fine ∧ o.held.length ≤ 41 ∧ Own B D wx L G I v vw (lkD o) ∧ Below B w0 wx
set_option maxRecDepth 8000 in
set_option maxHeartbeats 12000000 in
theorem deaf_walk (es : Er → Addr) (w : World) (A : Option Addr) (c : Nat) (fs : List Fr) (hE : LEnv w es) (hR : RdFs w A fs) (hl : ∀ f ∈ fs, f.lens) (hc : fs.length ≤ 9223372036854775807) : Calls Tryd.prog 8 #[.slice A fs.length c] w (OkPost w) := by
  have HE := Lib.hid hE
  have HAl := Lib.hid (alive12 es w hE)
  have HR := Lib.hid hR
  have HLs := Lib.hid hl
  have hen := run_err_neqK
  clear hE hR hl
  go_enter Tryd.func8, Tryd.ntmps8
  go_wp2_with fail
  refine HAl.out.mono ?_
  rintro e wl ⟨rfl, hbl⟩
  have HN1 := Lib.hid (lnew_any wl)
  have HBl := Lib.hid hbl
  have hzl := hbl.size
  clear hbl
  go_wp2_with fail
  refine HN1.out.mono ?_
  rintro e w1 ⟨L, G, I, rfl, s1, hb1⟩
  have HS1 := Lib.hid (show Own wl.heap.size (fun k => wl.heap.size ≤ k ∧ k < w1.heap.size) w1 L G I _ _ (lkD ⟨[], 0⟩) from ⟨s1, fun k hk => hk⟩)
  have HB1 := Lib.hid hb1
  have hz1 := hb1.size
  clear s1 hb1
  go_upto_block 0 with fail
  go_cut [4] from 17 to 68 (fun nv wx => DeafRel wl.heap.size wl L G I nv wx)
  case first =>
    go_wp2_with fail
    go_loopw [4, 16] (fun nv iv wr => ∃ i : Nat, i ≤ fs.length ∧ iv = .int .i64 i ∧ ∃ (o : Ro) (D : Nat → Prop) (v vw : Value), nv = .int .i64 (o.held.length : Nat) ∧ o.acked = 0 ∧ o.fine ∧ o.held.length ≤ i ∧ o.held.length ≤ 41 ∧ Own wl.heap.size D wr L G I v vw (lkD o) ∧ Below wl.heap.size wl wr) (fun _ iv _ => fs.length - (intOf iv).toNat)
    case atStart => exact ⟨0, Nat.zero_le _, rfl, ⟨[], 0⟩, _, _, _, rfl, rfl, Ro.fine.new, Nat.le_refl _, by simp, HS1.out, HB1.out⟩
    case round =>
      obtain ⟨i, hi, rfl, o, D, v, vw, rfl, hoa, hof, hol, hol2, hs, hbel⟩ := hrel
      have HS := Lib.hid hs
      have HOa := Lib.hid hoa
      have HOf := Lib.hid hof
      have HBel := Lib.hid hbel
      have hBw := below_on HBl.out hbel
      have HBw := Lib.hid hBw
      have hzr := hbel.size
      by_cases hlt : i < fs.length
      · obtain ⟨ad, A1, c1, rfl, hadb0, hfr0, hr0⟩ := HR.out.at i hlt
        have hadb : ad.block < wr.heap.size := Nat.lt_of_lt_of_le hadb0 hBw.size
        have hfr := hfr0.move (w' := wr) (hBw.block _ (by rw [add_block]; exact hadb0))
        have hr := hr0.below hBw
        have hlf := HLs.out _ (List.getElem_mem hlt)
        generalize fs[i] = f at *
        obtain ⟨w3, hw3⟩ : ∃ W, W = wr.alloc (Obj.cells #[.int .i64 f.kind, .int .i64 f.seq, .int .i64 f.got, .int .i64 f.stream, .int .i64 f.amount, .int .i64 f.code, .string f.who, .string f.name, .float .f64 f.weight, .slice A1 f.bytes.length c1] 33) := ⟨_, rfl⟩
        have hb3 : Below wr.heap.size wr w3 := by rw [hw3]; exact below_box _ _
        have HF3 := Lib.hid (show FrC w3 wr.heap.size f A1 c1 by rw [hw3]; exact FrC.box wr f A1 c1 _)
        have hs3 : w3.heap.size = wr.heap.size + 1 := by rw [hw3]; simp
        have HS3 := Lib.hid (hs.on hb3)
        have HB3 := Lib.hid (hbel.trans (hb3.mono hzr))
        have HR3 := Lib.hid (hr.move (w' := w3) (fun k hk => hb3.block k (Nat.lt_of_lt_of_le hk hBw.size)))
        have HW3 := Lib.hid hw3.symm
        have HLf := Lib.hid hlf
        have HLo := Lib.hid (llong_any f A1 c1 w3 hlf)
        obtain ⟨a0, a1, a2, a3, a4, a5, a6, a7, a8, a9⟩ := hfr
        obtain ⟨d0, d1, d2, d3, d4, d5, d6, d7, d8, d9⟩ := HF3.out
        have j0 : (0 : Int) ≤ (i : Int) := by omega
        have j1 : (i : Int) < (fs.length : Int) := by omega
        have j3 : IntKind.i64.wrap ((i : Int) + 1) = (i : Int) + 1 := IntWalk.i64_in _ (by omega)
        have hcb1 : (ad.add (i * 10)).block < wr.heap.size := by rw [add_block]; exact hadb
        have hlt3 : wr.heap.size < w3.heap.size := by omega
        unfold frV at HLo
        clear hb3 hw3 hr hr0 hfr0 hbel hBw hs hoa hof hlf
        by_cases h40 : 40 < i
        · have k0 : (40 : Int) < (i : Int) := by omega
          clear h40
          go_wp2_with (rw [HW3.out])
          go_meet
          exact ⟨o, D, v, vw, rfl, HOa.out, HOf.out, hol2, HS3.out, HB3.out⟩
        · have k0 : ¬ (40 : Int) < (i : Int) := by omega
          go_wp2_with (rw [HW3.out])
          refine HLo.out.mono ?_
          rintro e w4 ⟨rfl, hb4⟩
          have HS4 := Lib.hid (HS3.out.on hb4)
          have HB4 := Lib.hid (below_on HB3.out hb4)
          have HF4 := Lib.hid (HF3.out.on hlt3 hb4)
          have hz4 := hb4.size
          have HR4 := Lib.hid (HR3.out.move (w' := w4) (fun k hk => hb4.block k (by omega)))
          have hlt4 : wr.heap.size < w4.heap.size := by omega
          clear hb4 a0 a1 a2 a3 a4 a5 a6 a7 a8 a9 d0 d1 d2 d3 d4 d5 d6 d7 d8 d9
          cases hlg : longL f with
          | true =>
            clear hlg h40
            go_wp2_with fail
            go_meet
            exact ⟨o, D, v, vw, rfl, HOa.out, HOf.out, hol2, HS4.out, HB4.out⟩
          | false =>
            have hbl := longL_no hlg
            have hE4 := HE.out.step (below_on HBl.out HB4.out)
            have HE4 := Lib.hid hE4
            have htk := ltake_down es _ w4 L G I _ _ (lkD o) f A1 c1 hE4.r HS4.out.at_ rfl
            have HTk := Lib.hid htk
            obtain ⟨d0, d1, d2, d3, d4, d5, d6, d7, d8, d9⟩ := HF4.out
            clear hlg hE4 htk
            unfold frV at HTk
            go_wp2_with fail
            refine HTk.out.mono ?_
            rintro e w5 ⟨rfl, hb5⟩
            have hb5w := below_on HB4.out hb5
            have HB5 := Lib.hid hb5w
            have HS5 := Lib.hid (HS4.out.on hb5)
            have HE5 := HE.out.step (below_on HBl.out hb5w)
            have he := HE5.r.fenv.e3.state.at
            unfold errV at he
            have hF5 := HF4.out.on hlt4 hb5
            have hz5 := hb5.size
            have HR5 := Lib.hid (HR4.out.move (w' := w5) (fun k hk => hb5.block k (by omega)))
            have hlt5 : wr.heap.size < w5.heap.size := by omega
            have hse := send_any es _ w5 L G I _ _ (lkD o) f A1 c1 wl (HE.out.r.step HBl.out) hb5w (HS5.out.low hb5w.size) HS5.out.open (lkD_fine HOf.out) HLf.out (HR5.out.mono (ok' := (· < w5.heap.size)) (fun k hk => by have := HBl.out.size; omega)) (by omega) HS5.out.fresh
            have HSe := Lib.hid hse
            clear hb5 hb5w HE5 hse d0 d1 d2 d3 d4 d5 d6 d7 d8 d9
            obtain ⟨d0, d1, d2, d3, d4, d5, d6, d7, d8, d9⟩ := hF5
            unfold frV at HSe
            unfold errV
            cases hm : o.may f with
            | some er =>
              have HSe2 := Lib.hid (HSe.out.mono fun e w' h => h.er hm)
              clear hm HSe
              go_wp2_with fail
              refine HSe2.out.mono ?_
              rintro e w7 ⟨rfl, hb7⟩
              obtain ⟨w8, hw8⟩ : ∃ W, W = w7.alloc (Obj.cells #[.int .i64 0, .int .i64 0, .int .i64 0, .int .i64 0, .int .i64 0, .int .i64 0, .string ⟨#[]⟩, .string ⟨#[]⟩, .float .f64 0, .slice none 0 0] 33) := ⟨_, rfl⟩
              have hb78 : Below w7.heap.size w7 w8 := by rw [hw8]; exact below_box _ _
              have hb58 := below_on hb7 hb78
              have HB8 := Lib.hid (below_on HB5.out hb58)
              have HS8 := Lib.hid (HS5.out.on hb58)
              have HW8 := Lib.hid hw8.symm
              clear hw8 hb7 hb78 hb58 d0 d1 d2 d3 d4 d5 d6 d7 d8 d9 he
              simp only [frV, Fr.of, noS, List.length_nil, errV]
              go_upto_region 15 with fail
              rw [HW8.out]
              have hte := tell_any es _ w8 L G I _ _ (lkD o) wl (HE.out.r.step HBl.out) HB8.out (HS8.out.low HB8.out.size) HS8.out.open (lkD_fine HOf.out) HS8.out.fresh
              rw [lkD_tell] at hte
              have HTe := Lib.hid hte
              clear hte
              go_wp2_with fail
              refine HTe.out.mono ?_
              rintro e w20 ⟨rfl, v20, vw20, s20, hch20, hbb20⟩
              have HS20 := Lib.hid (Own.next HB8.out.size HS8.out.dom s20)
              have HB20 := Lib.hid (HS8.out.below hch20 HB8.out HB8.out.size)
              have HPe := Lib.hid (show Calls Tryd.prog 41 #[.pointer (some ⟨L, 0, none⟩)] w20 (ValP w20 (.int .i64 0)) from pending_any _ w20 L G I _ _ (lkD o) s20)
              clear s20 hch20 hbb20
              go_wp2_with fail
              refine HPe.out.mono ?_
              rintro e w21 hv21
              obtain ⟨rfl, hb21⟩ := hv21.below
              have hs21 := HS20.out.on hb21
              have HS21 := Lib.hid hs21
              have HB21 := Lib.hid (below_on HB20.out hb21)
              have g0 := hs21.at_.c0
              have hla := last_any _ w21 G _ o hs21.at_.out HOf.out
              rw [show (o).last = o.held.length by unfold Ro.last; rw [HOa.out, Nat.zero_add]] at hla
              have HLa := Lib.hid hla
              clear hv21 hb21 hs21 hla
              go_wp2_with fail
              refine HLa.out.mono ?_
              rintro e w22 hv22
              obtain ⟨rfl, hb22⟩ := hv22.below
              have hs22 := HS21.out.on hb22
              have HS22 := Lib.hid hs22
              have HB22 := Lib.hid (below_on HB21.out hb22)
              have HGo := Lib.hid (show Calls Tryd.prog 42 #[.pointer (some ⟨L, 0, none⟩)] w22 (ValP w22 (.int .i64 0)) from lgot_any _ w22 L G I _ _ (lkD o) hs22.at_)
              clear hv22 hb22 hs22 g0
              go_wp2_with fail
              refine HGo.out.mono ?_
              rintro e w23 hv23
              obtain ⟨rfl, hb23⟩ := hv23.below
              have HS23 := Lib.hid (HS22.out.on hb23)
              have HB23 := Lib.hid (below_on HB22.out hb23)
              clear hv23 hb23
              go_wp2_with fail
              go_roundw
              case rel => exact ⟨i + 1, by omega, by go_num, o, _, _, _, rfl, HOa.out, HOf.out, by omega, hol2, HS23.out, HB23.out⟩
              case measure => simp [intOf]; omega
            | none =>
              have HSe2 := Lib.hid (HSe.out.mono fun e w' h => h.ok hm)
              have HOp := Lib.hid (HOf.out.push hm)
              have HOh := Lib.hid (show (o.push f).held.length = o.held.length + 1 by simp [Ro.push])
              have k5 : IntKind.i64.wrap ((o.held.length : Int) + 1) = (o.held.length : Int) + 1 := IntWalk.i64_in _ (by omega)
              clear hm HSe
              go_wp2_with fail
              refine HSe2.out.mono ?_
              rintro e w7 ⟨A7, c7, v7, vw7, rfl, s7, hch7, hbb7, hr7⟩
              rw [lkD_push] at s7
              obtain ⟨w8, hw8⟩ : ∃ W, W = w7.alloc (Obj.cells #[.int .i64 (o.as f).kind, .int .i64 (o.as f).seq, .int .i64 (o.as f).got, .int .i64 (o.as f).stream, .int .i64 (o.as f).amount, .int .i64 (o.as f).code, .string (o.as f).who, .string (o.as f).name, .float .f64 (o.as f).weight, .slice A7 (o.as f).bytes.length c7] 33) := ⟨_, rfl⟩
              have hb78 : Below w7.heap.size w7 w8 := by rw [hw8]; exact below_box _ _
              have HB8 := Lib.hid (below_on (HS5.out.below hch7 HB5.out HB5.out.size) hb78)
              have HS8 := Lib.hid ((Own.next HB5.out.size HS5.out.dom s7).on hb78)
              have HW8 := Lib.hid hw8.symm
              clear hw8 hb78 s7 hch7 hbb7 hr7 d0 d1 d2 d3 d4 d5 d6 d7 d8 d9 he
              unfold frV
              rw [show (lkD o).o = o from rfl]
              go_upto_region 15 with fail
              rw [HW8.out]
              have hte := tell_any es _ w8 L G I _ _ (lkD (o.push f)) wl (HE.out.r.step HBl.out) HB8.out (HS8.out.low HB8.out.size) HS8.out.open (lkD_fine HOp.out) HS8.out.fresh
              rw [lkD_tell] at hte
              have HTe := Lib.hid hte
              clear hte
              go_wp2_with fail
              refine HTe.out.mono ?_
              rintro e w20 ⟨rfl, v20, vw20, s20, hch20, hbb20⟩
              have HS20 := Lib.hid (Own.next HB8.out.size HS8.out.dom s20)
              have HB20 := Lib.hid (HS8.out.below hch20 HB8.out HB8.out.size)
              have HPe := Lib.hid (show Calls Tryd.prog 41 #[.pointer (some ⟨L, 0, none⟩)] w20 (ValP w20 (.int .i64 0)) from pending_any _ w20 L G I _ _ (lkD (o.push f)) s20)
              clear s20 hch20 hbb20
              go_wp2_with fail
              refine HPe.out.mono ?_
              rintro e w21 hv21
              obtain ⟨rfl, hb21⟩ := hv21.below
              have hs21 := HS20.out.on hb21
              have HS21 := Lib.hid hs21
              have HB21 := Lib.hid (below_on HB20.out hb21)
              have g0 := hs21.at_.c0
              have hla := last_any _ w21 G _ (o.push f) hs21.at_.out HOp.out
              rw [show ((o.push f)).last = o.held.length + 1 by unfold Ro.last; rw [show (o.push f).acked = 0 from HOa.out, Nat.zero_add, HOh.out]] at hla
              have HLa := Lib.hid hla
              clear hv21 hb21 hs21 hla
              go_wp2_with fail
              refine HLa.out.mono ?_
              rintro e w22 hv22
              obtain ⟨rfl, hb22⟩ := hv22.below
              have hs22 := HS21.out.on hb22
              have HS22 := Lib.hid hs22
              have HB22 := Lib.hid (below_on HB21.out hb22)
              have HGo := Lib.hid (show Calls Tryd.prog 42 #[.pointer (some ⟨L, 0, none⟩)] w22 (ValP w22 (.int .i64 0)) from lgot_any _ w22 L G I _ _ (lkD (o.push f)) hs22.at_)
              clear hv22 hb22 hs22 g0
              go_wp2_with fail
              refine HGo.out.mono ?_
              rintro e w23 hv23
              obtain ⟨rfl, hb23⟩ := hv23.below
              have HS23 := Lib.hid (HS22.out.on hb23)
              have HB23 := Lib.hid (below_on HB22.out hb23)
              clear hv23 hb23
              go_wp2_with fail
              go_roundw
              case rel => exact ⟨i + 1, by omega, by go_num, o.push f, _, _, _, by rw [HOh.out]; go_num, HOa.out, HOp.out, by rw [HOh.out]; omega, by rw [HOh.out]; omega, HS23.out, HB23.out⟩
              case measure => simp [intOf]; omega
      · have j1 : ¬ (i : Int) < (fs.length : Int) := by omega
        clear hs hoa hof hbel hBw
        go_wp2_with fail
        go_meet
        exact ⟨o, D, v, vw, rfl, HOa.out, HOf.out, hol2, HS.out, HBel.out⟩
  case rest =>
    obtain ⟨o, D, v, vw, rfl, hoa, hof, hol2, hs, hbel⟩ := hcut
    have HB := Lib.hid hbel
    have HOwn := Lib.hid hs
    have hbd : Below wc.heap.size wc wc.drew := (Below.refl _ _).drew
    have hsd := hs.on hbd
    have hBd := below_on hbel hbd
    have hup := up_any es _ wc.drew L G I _ _ (lkD o) 0 wl (HE.out.r.step HBl.out) hBd (hsd.low hBd.size) hsd.open (lkD_fine hof) (by show o.acked ≤ 0; omega) (Nat.zero_le _) hsd.fresh
    have HUp := Lib.hid (show Calls Tryd.prog 43 #[.pointer (some ⟨L, 0, none⟩), .int .i64 0] wc.drew _ from hup)
    have HRa := Lib.hid (lkD_raise hof hoa)
    have hbp := bytes_pos hof
    have HSd := Lib.hid hsd
    have HBd := Lib.hid hBd
    obtain ⟨nb, hnb⟩ : ∃ nb, nb = o.bytes := ⟨_, rfl⟩
    obtain ⟨nh, hnh⟩ : ∃ nh, nh = o.held.length := ⟨_, rfl⟩
    rw [← hnb, ← hnh] at hbp
    rw [← hnh]
    have HNb := Lib.hid hnb
    clear hbel hs hbd hsd hBd hup hof hoa hnb hnh hol2
    by_cases h0 : 0 < nh
    · have k1 : (0 : Int) < (nh : Int) := by omega
      have k2 : (0 : Int) < (nb : Int) := by omega
      have k3 : 0 < nb := by omega
      have k4 : 0 < nh := by omega
      clear h0 hbp
      have HS0 := Lib.hid (show ∀ W, Below wc.heap.size wc W → W.cell? ⟨L, 0, none⟩ = some (.pointer (some ⟨G, 0, none⟩)) from fun W h => (HOwn.out.on h).at_.c0)
      go_wp2_with fail
      have hbq10 : Below wc.heap.size wc wc.drew := (Below.refl _ _).drew
      refine wp_region_held_drew (S := (fun W => W.cell? ⟨L, 0, none⟩ = some (.pointer (some ⟨G, 0, none⟩)))) (by kernel_rfl) (HS0.out _ hbq10) (fun hHq10 => ?_)
      refine wpAnyH_take (i := 0) (oi := { dst := some 69, op := Op.move (Operand.tmp 3), type := 64, pos := "extra.go:84", after := #[], guard := none }) (v := ?vq1x2) rfl (by kernel_rfl) (by kernel_rfl) (by kernel_rfl) (fun _ _ _ h => h) (Or.inl ⟨by rfl, ?hyq1x2⟩) (by assumption) ?restq1x2
      case hyq1x2 => (intro w hSw; (try dsimp only at hSw); go_simp; first | done | with_reducible rfl)
      simp only [Act.put, List.setIfInBounds_toArray, List.set_cons_zero, List.set_cons_succ]
      refine wpAnyH_ready (rs := [1]) (by kernel_rfl) (by simp) ?_
      refine AllReadyH.cons (o := { dst := some 70, op := Op.call { callee := Callee.value (Operand.func 43), args := #[Operand.tmp 69, Operand.const (Value.int IntKind.i64 0)], argTypes := #[64, 3] }, type := 35, pos := "extra.go:84", after := #[{ on := 0, ground := Ground.data }], guard := none }) rfl (fun K hK => ?_) AllReadyH.nil
      go_simp
      go_wp2_with (refine HUp.out.mono ?_; rintro e w2 ⟨rfl, v2, vw2, s2, hch2, hbb2⟩)
      have HPe := Lib.hid (show ∀ W, Below w2.heap.size w2 W → Calls Tryd.prog 41 #[.pointer (some ⟨L, 0, none⟩)] W (fun e w' => e = .returned (.int .i64 (nb : Nat)) ∧ Below W.heap.size W w') from fun W h => by have h2 := pending_any _ W L G I _ _ _ (s2.on h); rw [HRa.out.1, ← HNb.out] at h2; exact h2.mono fun e w' h3 => h3.below)
      have HBy := Lib.hid (show ∀ W, Below w2.heap.size w2 W → Calls Tryd.prog 25 #[.pointer (some ⟨G, 0, none⟩)] W (fun e w' => e = .returned (.int .i64 (nb : Nat)) ∧ Below W.heap.size W w') from fun W h => by have h2 := obytes_any _ W G _ _ (s2.on h).out; rw [HRa.out.2, ← HNb.out] at h2; exact h2.mono fun e w' h3 => h3.below)
      have HS2 := Lib.hid (show ∀ W, Below w2.heap.size w2 W → W.cell? ⟨L, 0, none⟩ = some (.pointer (some ⟨G, 0, none⟩)) from fun W h => (s2.on h).c0)
      have hbw2 := Below.refl w2.heap.size w2
      have HF2 := Lib.hid (HSd.out.below hch2 HBd.out HBd.out.size)
      clear s2 hch2 hbb2
      refine hK.out _ _ (HS2.out _ hbw2) (fun hHq11 => ?_)
      clear hK K hHq10
      refine wpAnyH_take (i := 2) (oi := { dst := some 71, op := Op.binOp BinOp.eql 35 (Operand.tmp 70) (Operand.const Value.nilIface) 35, type := 4, pos := "extra.go:84", after := #[{ on := 1, ground := Ground.data }], guard := none }) (v := ?vq1x3) rfl (by kernel_rfl) (by kernel_rfl) (by kernel_rfl) (fun _ _ _ h => h) (Or.inl ⟨by rfl, ?hyq1x3⟩) (by assumption) ?restq1x3
      case hyq1x3 => (intro w hSw; (try dsimp only at hSw); go_simp; first | done | with_reducible rfl)
      simp only [Act.put, List.setIfInBounds_toArray, List.set_cons_zero, List.set_cons_succ]
      refine wpAnyH_take (i := 3) (oi := { dst := some 72, op := Op.move (Operand.tmp 71), type := 4, pos := "extra.go:84", after := #[{ on := 2, ground := Ground.data }, { on := 1, ground := Ground.chain }], guard := none }) (v := ?vq1x4) rfl (by kernel_rfl) (by kernel_rfl) (by kernel_rfl) (fun _ _ _ h => h) (Or.inl ⟨by rfl, ?hyq1x4⟩) (by assumption) ?restq1x4
      case hyq1x4 => (intro w hSw; (try dsimp only at hSw); go_simp; first | done | with_reducible rfl)
      simp only [Act.put, List.setIfInBounds_toArray, List.set_cons_zero, List.set_cons_succ]
      refine wpAnyH_take (i := 4) (oi := { dst := some 73, op := Op.move (Operand.tmp 3), type := 64, pos := "extra.go:84", after := #[{ on := 3, ground := Ground.guard }], guard := some (3, true) }) (v := ?vq1x5) rfl (by kernel_rfl) (by kernel_rfl) (by kernel_rfl) (fun _ _ _ h => h) (Or.inl ⟨by rfl, ?hyq1x5⟩) (by assumption) ?restq1x5
      case hyq1x5 => (intro w hSw; (try dsimp only at hSw); go_simp; first | done | with_reducible rfl)
      simp only [Act.put, List.setIfInBounds_toArray, List.set_cons_zero, List.set_cons_succ]
      refine wpAnyH_take (i := 7) (oi := { dst := some 76, op := Op.move (Operand.tmp 4), type := 3, pos := "extra.go:84", after := #[{ on := 3, ground := Ground.guard }], guard := some (3, true) }) (v := ?vq1x6) rfl (by kernel_rfl) (by kernel_rfl) (by kernel_rfl) (fun _ _ _ h => h) (Or.inl ⟨by rfl, ?hyq1x6⟩) (by assumption) ?restq1x6
      case hyq1x6 => (intro w hSw; (try dsimp only at hSw); go_simp; first | done | with_reducible rfl)
      simp only [Act.put, List.setIfInBounds_toArray, List.set_cons_zero, List.set_cons_succ]
      refine wpAnyH_take (i := 8) (oi := { dst := some 77, op := Op.binOp BinOp.gtr 3 (Operand.tmp 76) (Operand.const (Value.int IntKind.i64 0)) 3, type := 4, pos := "extra.go:84", after := #[{ on := 7, ground := Ground.data }, { on := 3, ground := Ground.guard }], guard := some (3, true) }) (v := ?vq1x7) rfl (by kernel_rfl) (by kernel_rfl) (by kernel_rfl) (fun _ _ _ h => h) (Or.inl ⟨by rfl, ?hyq1x7⟩) (by assumption) ?restq1x7
      case hyq1x7 => (intro w hSw; (try dsimp only at hSw); go_simp; first | done | with_reducible rfl)
      simp only [Act.put, List.setIfInBounds_toArray, List.set_cons_zero, List.set_cons_succ]
      refine wpAnyH_ready (rs := [5]) (by kernel_rfl) (by simp) ?_
      refine AllReadyH.cons (o := { dst := some 74, op := Op.call { callee := Callee.value (Operand.func 41), args := #[Operand.tmp 73], argTypes := #[64] }, type := 3, pos := "extra.go:84", after := #[{ on := 4, ground := Ground.data }, { on := 3, ground := Ground.chain }, { on := 3, ground := Ground.guard }], guard := some (3, true) }) rfl (fun K hK => ?_) AllReadyH.nil
      go_simp
      go_wp2_with (refine (HPe.out _ hbw2).mono ?_; rintro e xq12 ⟨rfl, hstep⟩)
      have hbq12 := below_on hbw2 hstep
      refine hK.out _ _ (HS2.out _ hbq12) (fun hHq12 => ?_)
      clear hK K hHq11 hstep
      refine wpAnyH_take (i := 6) (oi := { dst := some 75, op := Op.binOp BinOp.gtr 3 (Operand.tmp 74) (Operand.const (Value.int IntKind.i64 0)) 3, type := 4, pos := "extra.go:84", after := #[{ on := 5, ground := Ground.data }, { on := 3, ground := Ground.guard }], guard := some (3, true) }) (v := ?vq1x8) rfl (by kernel_rfl) (by kernel_rfl) (by kernel_rfl) (fun _ _ _ h => h) (Or.inl ⟨by rfl, ?hyq1x8⟩) (by assumption) ?restq1x8
      case hyq1x8 => (intro w hSw; (try dsimp only at hSw); go_simp; first | done | with_reducible rfl)
      simp only [Act.put, List.setIfInBounds_toArray, List.set_cons_zero, List.set_cons_succ]
      refine wpAnyH_take (i := 9) (oi := { dst := some 78, op := Op.binOp BinOp.eql 4 (Operand.tmp 75) (Operand.tmp 77) 4, type := 4, pos := "extra.go:84", after := #[{ on := 6, ground := Ground.data }, { on := 8, ground := Ground.data }, { on := 3, ground := Ground.guard }], guard := some (3, true) }) (v := ?vq1x9) rfl (by kernel_rfl) (by kernel_rfl) (by kernel_rfl) (fun _ _ _ h => h) (Or.inl ⟨by rfl, ?hyq1x9⟩) (by assumption) ?restq1x9
      case hyq1x9 => (intro w hSw; (try dsimp only at hSw); go_simp; first | done | with_reducible rfl)
      simp only [Act.put, List.setIfInBounds_toArray, List.set_cons_zero, List.set_cons_succ]
      refine wpAnyH_take (i := 10) (oi := { dst := some 79, op := Op.pick (Operand.tmp 72) (Operand.tmp 78) (Operand.const (Value.bool false)), type := 4, pos := "extra.go:84", after := #[{ on := 3, ground := Ground.data }, { on := 9, ground := Ground.data }], guard := none }) (v := ?vq1x10) rfl (by kernel_rfl) (by kernel_rfl) (by kernel_rfl) (fun _ _ _ h => h) (Or.inl ⟨by rfl, ?hyq1x10⟩) (by assumption) ?restq1x10
      case hyq1x10 => (intro w hSw; (try dsimp only at hSw); go_simp; first | done | with_reducible rfl)
      simp only [Act.put, List.setIfInBounds_toArray, List.set_cons_zero, List.set_cons_succ]
      refine wpAnyH_take (i := 11) (oi := { dst := some 80, op := Op.move (Operand.tmp 79), type := 4, pos := "extra.go:84", after := #[{ on := 10, ground := Ground.data }, { on := 5, ground := Ground.chain }], guard := none }) (v := ?vq1x11) rfl (by kernel_rfl) (by kernel_rfl) (by kernel_rfl) (fun _ _ _ h => h) (Or.inl ⟨by rfl, ?hyq1x11⟩) (by assumption) ?restq1x11
      case hyq1x11 => (intro w hSw; (try dsimp only at hSw); go_simp; first | done | with_reducible rfl)
      simp only [Act.put, List.setIfInBounds_toArray, List.set_cons_zero, List.set_cons_succ]
      refine wpAnyH_take (i := 12) (oi := { dst := some 81, op := Op.move (Operand.tmp 3), type := 64, pos := "extra.go:84", after := #[{ on := 11, ground := Ground.guard }], guard := some (11, true) }) (v := ?vq1x12) rfl (by kernel_rfl) (by kernel_rfl) (by kernel_rfl) (fun _ _ _ h => h) (Or.inl ⟨by rfl, ?hyq1x12⟩) (by assumption) ?restq1x12
      case hyq1x12 => (intro w hSw; (try dsimp only at hSw); go_simp; first | done | with_reducible rfl)
      simp only [Act.put, List.setIfInBounds_toArray, List.set_cons_zero, List.set_cons_succ]
      refine wpAnyH_take (i := 14) (oi := { dst := some 83, op := Op.move (Operand.tmp 3), type := 64, pos := "extra.go:84", after := #[{ on := 11, ground := Ground.guard }], guard := some (11, true) }) (v := ?vq1x13) rfl (by kernel_rfl) (by kernel_rfl) (by kernel_rfl) (fun _ _ _ h => h) (Or.inl ⟨by rfl, ?hyq1x13⟩) (by assumption) ?restq1x13
      case hyq1x13 => (intro w hSw; (try dsimp only at hSw); go_simp; first | done | with_reducible rfl)
      simp only [Act.put, List.setIfInBounds_toArray, List.set_cons_zero, List.set_cons_succ]
      refine wpAnyH_take (i := 15) (oi := { dst := some 84, op := Op.nilCheck (Operand.tmp 83), type := 0, pos := "extra.go:84", after := #[{ on := 14, ground := Ground.data }, { on := 11, ground := Ground.guard }], guard := some (11, true) }) (v := ?vq1x14) rfl (by kernel_rfl) (by kernel_rfl) (by kernel_rfl) (fun _ _ _ h => h) (Or.inl ⟨by rfl, ?hyq1x14⟩) (by assumption) ?restq1x14
      case hyq1x14 => (intro w hSw; (try dsimp only at hSw); go_simp; first | done | with_reducible rfl)
      simp only [Act.put, List.setIfInBounds_toArray, List.set_cons_zero, List.set_cons_succ]
      refine wpAnyH_take (i := 16) (oi := { dst := some 85, op := Op.fieldAddr 67 (Operand.tmp 84) 0, type := 0, pos := "extra.go:84", after := #[{ on := 15, ground := Ground.data }, { on := 11, ground := Ground.guard }], guard := some (11, true) }) (v := ?vq1x15) rfl (by kernel_rfl) (by kernel_rfl) (by kernel_rfl) (fun _ _ _ h => h) (Or.inl ⟨by rfl, ?hyq1x15⟩) (by assumption) ?restq1x15
      case hyq1x15 => (intro w hSw; (try dsimp only at hSw); go_simp; first | done | with_reducible rfl)
      simp only [Act.put, List.setIfInBounds_toArray, List.set_cons_zero, List.set_cons_succ]
      refine wpAnyH_take (i := 17) (oi := { dst := some 86, op := Op.load 25 (Operand.tmp 85), type := 25, pos := "extra.go:84", after := #[{ on := 16, ground := Ground.data }, { on := 11, ground := Ground.guard }], guard := some (11, true) }) (v := ?vq1x16) rfl (by kernel_rfl) (by kernel_rfl) (by kernel_rfl) (fun _ _ _ h => h) (Or.inl ⟨by rfl, ?hyq1x16⟩) (by assumption) ?restq1x16
      case hyq1x16 => (intro w hSw; (try dsimp only at hSw); go_simp; first | done | with_reducible rfl)
      simp only [Act.put, List.setIfInBounds_toArray, List.set_cons_zero, List.set_cons_succ]
      refine wpAnyH_ready (rs := [13]) (by kernel_rfl) (by simp) ?_
      refine AllReadyH.cons (o := { dst := some 82, op := Op.call { callee := Callee.value (Operand.func 41), args := #[Operand.tmp 81], argTypes := #[64] }, type := 3, pos := "extra.go:84", after := #[{ on := 12, ground := Ground.data }, { on := 11, ground := Ground.chain }, { on := 11, ground := Ground.guard }], guard := some (11, true) }) rfl (fun K hK => ?_) AllReadyH.nil
      go_simp
      go_wp2_with (refine (HPe.out _ hbq12).mono ?_; rintro e xq13 ⟨rfl, hstep⟩)
      have hbq13 := below_on hbq12 hstep
      refine hK.out _ _ (HS2.out _ hbq13) (fun hHq13 => ?_)
      clear hK K hHq12 hstep
      refine wpAnyH_ready (rs := [18]) (by kernel_rfl) (by simp) ?_
      refine AllReadyH.cons (o := { dst := some 87, op := Op.call { callee := Callee.value (Operand.func 25), args := #[Operand.tmp 86], argTypes := #[25] }, type := 3, pos := "extra.go:84", after := #[{ on := 17, ground := Ground.data }, { on := 13, ground := Ground.chain }, { on := 11, ground := Ground.guard }], guard := some (11, true) }) rfl (fun K hK => ?_) AllReadyH.nil
      go_simp
      go_wp2_with (refine (HBy.out _ hbq13).mono ?_; rintro e xq14 ⟨rfl, hstep⟩)
      have hbq14 := below_on hbq13 hstep
      refine hK.out _ _ (HS2.out _ hbq14) (fun hHq14 => ?_)
      clear hK K hHq13 hstep
      refine wpAnyH_take (i := 19) (oi := { dst := some 88, op := Op.binOp BinOp.eql 3 (Operand.tmp 82) (Operand.tmp 87) 3, type := 4, pos := "extra.go:84", after := #[{ on := 13, ground := Ground.data }, { on := 18, ground := Ground.data }, { on := 11, ground := Ground.guard }], guard := some (11, true) }) (v := ?vq1x17) rfl (by kernel_rfl) (by kernel_rfl) (by kernel_rfl) (fun _ _ _ h => h) (Or.inl ⟨by rfl, ?hyq1x17⟩) (by assumption) ?restq1x17
      case hyq1x17 => (intro w hSw; (try dsimp only at hSw); go_simp; first | done | with_reducible rfl)
      simp only [Act.put, List.setIfInBounds_toArray, List.set_cons_zero, List.set_cons_succ]
      refine wpAnyH_take (i := 20) (oi := { dst := some 89, op := Op.pick (Operand.tmp 80) (Operand.tmp 88) (Operand.const (Value.bool false)), type := 4, pos := "extra.go:84", after := #[{ on := 11, ground := Ground.data }, { on := 19, ground := Ground.data }], guard := none }) (v := ?vq1x18) rfl (by kernel_rfl) (by kernel_rfl) (by kernel_rfl) (fun _ _ _ h => h) (Or.inl ⟨by rfl, ?hyq1x18⟩) (by assumption) ?restq1x18
      case hyq1x18 => (intro w hSw; (try dsimp only at hSw); go_simp; first | done | with_reducible rfl)
      simp only [Act.put, List.setIfInBounds_toArray, List.set_cons_zero, List.set_cons_succ]
      refine wpAnyH_take (i := 21) (oi := { dst := some 2, op := Op.assign (Operand.tmp 89), type := 4, pos := "extra.go:84", after := #[{ on := 20, ground := Ground.data }, { on := 18, ground := Ground.chain }, { on := 0, ground := Ground.phase }, { on := 1, ground := Ground.phase }, { on := 2, ground := Ground.phase }, { on := 3, ground := Ground.phase }, { on := 4, ground := Ground.phase }, { on := 5, ground := Ground.phase }, { on := 6, ground := Ground.phase }, { on := 7, ground := Ground.phase }, { on := 8, ground := Ground.phase }, { on := 9, ground := Ground.phase }, { on := 10, ground := Ground.phase }, { on := 11, ground := Ground.phase }, { on := 12, ground := Ground.phase }, { on := 13, ground := Ground.phase }, { on := 14, ground := Ground.phase }, { on := 15, ground := Ground.phase }, { on := 16, ground := Ground.phase }, { on := 17, ground := Ground.phase }, { on := 18, ground := Ground.phase }, { on := 19, ground := Ground.phase }, { on := 20, ground := Ground.phase }], guard := none }) (v := ?vq1x19) rfl (by kernel_rfl) (by kernel_rfl) (by kernel_rfl) (fun _ _ _ h => h) (Or.inl ⟨by rfl, ?hyq1x19⟩) (by assumption) ?restq1x19
      case hyq1x19 => (intro w hSw; (try dsimp only at hSw); go_simp; first | done | with_reducible rfl)
      simp only [Act.put, List.setIfInBounds_toArray, List.set_cons_zero, List.set_cons_succ]
      refine wpAnyH_done (by kernel_rfl) ?_ _
      clear hHq14
      have HF := Lib.hid (below_on HBl.out (below_on HF2.out hbq14))
      go_wp2_with fail
      go_ret
      exact ⟨rfl, HF.out⟩
    · have k1 : ¬ (0 : Int) < (nh : Int) := by omega
      have k2 : ¬ (0 : Int) < (nb : Int) := by omega
      have k3 : nb = 0 := by omega
      have k4 : nh = 0 := by omega
      clear h0 hbp
      have HS0 := Lib.hid (show ∀ W, Below wc.heap.size wc W → W.cell? ⟨L, 0, none⟩ = some (.pointer (some ⟨G, 0, none⟩)) from fun W h => (HOwn.out.on h).at_.c0)
      go_wp2_with fail
      have hbq200 : Below wc.heap.size wc wc.drew := (Below.refl _ _).drew
      refine wp_region_held_drew (S := (fun W => W.cell? ⟨L, 0, none⟩ = some (.pointer (some ⟨G, 0, none⟩)))) (by kernel_rfl) (HS0.out _ hbq200) (fun hHq200 => ?_)
      refine wpAnyH_take (i := 0) (oi := { dst := some 69, op := Op.move (Operand.tmp 3), type := 64, pos := "extra.go:84", after := #[], guard := none }) (v := ?vq20x21) rfl (by kernel_rfl) (by kernel_rfl) (by kernel_rfl) (fun _ _ _ h => h) (Or.inl ⟨by rfl, ?hyq20x21⟩) (by assumption) ?restq20x21
      case hyq20x21 => (intro w hSw; (try dsimp only at hSw); go_simp; first | done | with_reducible rfl)
      simp only [Act.put, List.setIfInBounds_toArray, List.set_cons_zero, List.set_cons_succ]
      refine wpAnyH_ready (rs := [1]) (by kernel_rfl) (by simp) ?_
      refine AllReadyH.cons (o := { dst := some 70, op := Op.call { callee := Callee.value (Operand.func 43), args := #[Operand.tmp 69, Operand.const (Value.int IntKind.i64 0)], argTypes := #[64, 3] }, type := 35, pos := "extra.go:84", after := #[{ on := 0, ground := Ground.data }], guard := none }) rfl (fun K hK => ?_) AllReadyH.nil
      go_simp
      go_wp2_with (refine HUp.out.mono ?_; rintro e w2 ⟨rfl, v2, vw2, s2, hch2, hbb2⟩)
      have HPe := Lib.hid (show ∀ W, Below w2.heap.size w2 W → Calls Tryd.prog 41 #[.pointer (some ⟨L, 0, none⟩)] W (fun e w' => e = .returned (.int .i64 (nb : Nat)) ∧ Below W.heap.size W w') from fun W h => by have h2 := pending_any _ W L G I _ _ _ (s2.on h); rw [HRa.out.1, ← HNb.out] at h2; exact h2.mono fun e w' h3 => h3.below)
      have HBy := Lib.hid (show ∀ W, Below w2.heap.size w2 W → Calls Tryd.prog 25 #[.pointer (some ⟨G, 0, none⟩)] W (fun e w' => e = .returned (.int .i64 (nb : Nat)) ∧ Below W.heap.size W w') from fun W h => by have h2 := obytes_any _ W G _ _ (s2.on h).out; rw [HRa.out.2, ← HNb.out] at h2; exact h2.mono fun e w' h3 => h3.below)
      have HS2 := Lib.hid (show ∀ W, Below w2.heap.size w2 W → W.cell? ⟨L, 0, none⟩ = some (.pointer (some ⟨G, 0, none⟩)) from fun W h => (s2.on h).c0)
      have hbw2 := Below.refl w2.heap.size w2
      have HF2 := Lib.hid (HSd.out.below hch2 HBd.out HBd.out.size)
      clear s2 hch2 hbb2
      refine hK.out _ _ (HS2.out _ hbw2) (fun hHq201 => ?_)
      clear hK K hHq200
      refine wpAnyH_take (i := 2) (oi := { dst := some 71, op := Op.binOp BinOp.eql 35 (Operand.tmp 70) (Operand.const Value.nilIface) 35, type := 4, pos := "extra.go:84", after := #[{ on := 1, ground := Ground.data }], guard := none }) (v := ?vq20x22) rfl (by kernel_rfl) (by kernel_rfl) (by kernel_rfl) (fun _ _ _ h => h) (Or.inl ⟨by rfl, ?hyq20x22⟩) (by assumption) ?restq20x22
      case hyq20x22 => (intro w hSw; (try dsimp only at hSw); go_simp; first | done | with_reducible rfl)
      simp only [Act.put, List.setIfInBounds_toArray, List.set_cons_zero, List.set_cons_succ]
      refine wpAnyH_take (i := 3) (oi := { dst := some 72, op := Op.move (Operand.tmp 71), type := 4, pos := "extra.go:84", after := #[{ on := 2, ground := Ground.data }, { on := 1, ground := Ground.chain }], guard := none }) (v := ?vq20x23) rfl (by kernel_rfl) (by kernel_rfl) (by kernel_rfl) (fun _ _ _ h => h) (Or.inl ⟨by rfl, ?hyq20x23⟩) (by assumption) ?restq20x23
      case hyq20x23 => (intro w hSw; (try dsimp only at hSw); go_simp; first | done | with_reducible rfl)
      simp only [Act.put, List.setIfInBounds_toArray, List.set_cons_zero, List.set_cons_succ]
      refine wpAnyH_take (i := 4) (oi := { dst := some 73, op := Op.move (Operand.tmp 3), type := 64, pos := "extra.go:84", after := #[{ on := 3, ground := Ground.guard }], guard := some (3, true) }) (v := ?vq20x24) rfl (by kernel_rfl) (by kernel_rfl) (by kernel_rfl) (fun _ _ _ h => h) (Or.inl ⟨by rfl, ?hyq20x24⟩) (by assumption) ?restq20x24
      case hyq20x24 => (intro w hSw; (try dsimp only at hSw); go_simp; first | done | with_reducible rfl)
      simp only [Act.put, List.setIfInBounds_toArray, List.set_cons_zero, List.set_cons_succ]
      refine wpAnyH_take (i := 7) (oi := { dst := some 76, op := Op.move (Operand.tmp 4), type := 3, pos := "extra.go:84", after := #[{ on := 3, ground := Ground.guard }], guard := some (3, true) }) (v := ?vq20x25) rfl (by kernel_rfl) (by kernel_rfl) (by kernel_rfl) (fun _ _ _ h => h) (Or.inl ⟨by rfl, ?hyq20x25⟩) (by assumption) ?restq20x25
      case hyq20x25 => (intro w hSw; (try dsimp only at hSw); go_simp; first | done | with_reducible rfl)
      simp only [Act.put, List.setIfInBounds_toArray, List.set_cons_zero, List.set_cons_succ]
      refine wpAnyH_take (i := 8) (oi := { dst := some 77, op := Op.binOp BinOp.gtr 3 (Operand.tmp 76) (Operand.const (Value.int IntKind.i64 0)) 3, type := 4, pos := "extra.go:84", after := #[{ on := 7, ground := Ground.data }, { on := 3, ground := Ground.guard }], guard := some (3, true) }) (v := ?vq20x26) rfl (by kernel_rfl) (by kernel_rfl) (by kernel_rfl) (fun _ _ _ h => h) (Or.inl ⟨by rfl, ?hyq20x26⟩) (by assumption) ?restq20x26
      case hyq20x26 => (intro w hSw; (try dsimp only at hSw); go_simp; first | done | with_reducible rfl)
      simp only [Act.put, List.setIfInBounds_toArray, List.set_cons_zero, List.set_cons_succ]
      refine wpAnyH_ready (rs := [5]) (by kernel_rfl) (by simp) ?_
      refine AllReadyH.cons (o := { dst := some 74, op := Op.call { callee := Callee.value (Operand.func 41), args := #[Operand.tmp 73], argTypes := #[64] }, type := 3, pos := "extra.go:84", after := #[{ on := 4, ground := Ground.data }, { on := 3, ground := Ground.chain }, { on := 3, ground := Ground.guard }], guard := some (3, true) }) rfl (fun K hK => ?_) AllReadyH.nil
      go_simp
      go_wp2_with (refine (HPe.out _ hbw2).mono ?_; rintro e xq202 ⟨rfl, hstep⟩)
      have hbq202 := below_on hbw2 hstep
      refine hK.out _ _ (HS2.out _ hbq202) (fun hHq202 => ?_)
      clear hK K hHq201 hstep
      refine wpAnyH_take (i := 6) (oi := { dst := some 75, op := Op.binOp BinOp.gtr 3 (Operand.tmp 74) (Operand.const (Value.int IntKind.i64 0)) 3, type := 4, pos := "extra.go:84", after := #[{ on := 5, ground := Ground.data }, { on := 3, ground := Ground.guard }], guard := some (3, true) }) (v := ?vq20x27) rfl (by kernel_rfl) (by kernel_rfl) (by kernel_rfl) (fun _ _ _ h => h) (Or.inl ⟨by rfl, ?hyq20x27⟩) (by assumption) ?restq20x27
      case hyq20x27 => (intro w hSw; (try dsimp only at hSw); go_simp; first | done | with_reducible rfl)
      simp only [Act.put, List.setIfInBounds_toArray, List.set_cons_zero, List.set_cons_succ]
      refine wpAnyH_take (i := 9) (oi := { dst := some 78, op := Op.binOp BinOp.eql 4 (Operand.tmp 75) (Operand.tmp 77) 4, type := 4, pos := "extra.go:84", after := #[{ on := 6, ground := Ground.data }, { on := 8, ground := Ground.data }, { on := 3, ground := Ground.guard }], guard := some (3, true) }) (v := ?vq20x28) rfl (by kernel_rfl) (by kernel_rfl) (by kernel_rfl) (fun _ _ _ h => h) (Or.inl ⟨by rfl, ?hyq20x28⟩) (by assumption) ?restq20x28
      case hyq20x28 => (intro w hSw; (try dsimp only at hSw); go_simp; first | done | with_reducible rfl)
      simp only [Act.put, List.setIfInBounds_toArray, List.set_cons_zero, List.set_cons_succ]
      refine wpAnyH_take (i := 10) (oi := { dst := some 79, op := Op.pick (Operand.tmp 72) (Operand.tmp 78) (Operand.const (Value.bool false)), type := 4, pos := "extra.go:84", after := #[{ on := 3, ground := Ground.data }, { on := 9, ground := Ground.data }], guard := none }) (v := ?vq20x29) rfl (by kernel_rfl) (by kernel_rfl) (by kernel_rfl) (fun _ _ _ h => h) (Or.inl ⟨by rfl, ?hyq20x29⟩) (by assumption) ?restq20x29
      case hyq20x29 => (intro w hSw; (try dsimp only at hSw); go_simp; first | done | with_reducible rfl)
      simp only [Act.put, List.setIfInBounds_toArray, List.set_cons_zero, List.set_cons_succ]
      refine wpAnyH_take (i := 11) (oi := { dst := some 80, op := Op.move (Operand.tmp 79), type := 4, pos := "extra.go:84", after := #[{ on := 10, ground := Ground.data }, { on := 5, ground := Ground.chain }], guard := none }) (v := ?vq20x30) rfl (by kernel_rfl) (by kernel_rfl) (by kernel_rfl) (fun _ _ _ h => h) (Or.inl ⟨by rfl, ?hyq20x30⟩) (by assumption) ?restq20x30
      case hyq20x30 => (intro w hSw; (try dsimp only at hSw); go_simp; first | done | with_reducible rfl)
      simp only [Act.put, List.setIfInBounds_toArray, List.set_cons_zero, List.set_cons_succ]
      refine wpAnyH_take (i := 12) (oi := { dst := some 81, op := Op.move (Operand.tmp 3), type := 64, pos := "extra.go:84", after := #[{ on := 11, ground := Ground.guard }], guard := some (11, true) }) (v := ?vq20x31) rfl (by kernel_rfl) (by kernel_rfl) (by kernel_rfl) (fun _ _ _ h => h) (Or.inl ⟨by rfl, ?hyq20x31⟩) (by assumption) ?restq20x31
      case hyq20x31 => (intro w hSw; (try dsimp only at hSw); go_simp; first | done | with_reducible rfl)
      simp only [Act.put, List.setIfInBounds_toArray, List.set_cons_zero, List.set_cons_succ]
      refine wpAnyH_take (i := 14) (oi := { dst := some 83, op := Op.move (Operand.tmp 3), type := 64, pos := "extra.go:84", after := #[{ on := 11, ground := Ground.guard }], guard := some (11, true) }) (v := ?vq20x32) rfl (by kernel_rfl) (by kernel_rfl) (by kernel_rfl) (fun _ _ _ h => h) (Or.inl ⟨by rfl, ?hyq20x32⟩) (by assumption) ?restq20x32
      case hyq20x32 => (intro w hSw; (try dsimp only at hSw); go_simp; first | done | with_reducible rfl)
      simp only [Act.put, List.setIfInBounds_toArray, List.set_cons_zero, List.set_cons_succ]
      refine wpAnyH_take (i := 15) (oi := { dst := some 84, op := Op.nilCheck (Operand.tmp 83), type := 0, pos := "extra.go:84", after := #[{ on := 14, ground := Ground.data }, { on := 11, ground := Ground.guard }], guard := some (11, true) }) (v := ?vq20x33) rfl (by kernel_rfl) (by kernel_rfl) (by kernel_rfl) (fun _ _ _ h => h) (Or.inl ⟨by rfl, ?hyq20x33⟩) (by assumption) ?restq20x33
      case hyq20x33 => (intro w hSw; (try dsimp only at hSw); go_simp; first | done | with_reducible rfl)
      simp only [Act.put, List.setIfInBounds_toArray, List.set_cons_zero, List.set_cons_succ]
      refine wpAnyH_take (i := 16) (oi := { dst := some 85, op := Op.fieldAddr 67 (Operand.tmp 84) 0, type := 0, pos := "extra.go:84", after := #[{ on := 15, ground := Ground.data }, { on := 11, ground := Ground.guard }], guard := some (11, true) }) (v := ?vq20x34) rfl (by kernel_rfl) (by kernel_rfl) (by kernel_rfl) (fun _ _ _ h => h) (Or.inl ⟨by rfl, ?hyq20x34⟩) (by assumption) ?restq20x34
      case hyq20x34 => (intro w hSw; (try dsimp only at hSw); go_simp; first | done | with_reducible rfl)
      simp only [Act.put, List.setIfInBounds_toArray, List.set_cons_zero, List.set_cons_succ]
      refine wpAnyH_take (i := 17) (oi := { dst := some 86, op := Op.load 25 (Operand.tmp 85), type := 25, pos := "extra.go:84", after := #[{ on := 16, ground := Ground.data }, { on := 11, ground := Ground.guard }], guard := some (11, true) }) (v := ?vq20x35) rfl (by kernel_rfl) (by kernel_rfl) (by kernel_rfl) (fun _ _ _ h => h) (Or.inl ⟨by rfl, ?hyq20x35⟩) (by assumption) ?restq20x35
      case hyq20x35 => (intro w hSw; (try dsimp only at hSw); go_simp; first | done | with_reducible rfl)
      simp only [Act.put, List.setIfInBounds_toArray, List.set_cons_zero, List.set_cons_succ]
      refine wpAnyH_ready (rs := [13]) (by kernel_rfl) (by simp) ?_
      refine AllReadyH.cons (o := { dst := some 82, op := Op.call { callee := Callee.value (Operand.func 41), args := #[Operand.tmp 81], argTypes := #[64] }, type := 3, pos := "extra.go:84", after := #[{ on := 12, ground := Ground.data }, { on := 11, ground := Ground.chain }, { on := 11, ground := Ground.guard }], guard := some (11, true) }) rfl (fun K hK => ?_) AllReadyH.nil
      go_simp
      go_wp2_with (refine (HPe.out _ hbq202).mono ?_; rintro e xq203 ⟨rfl, hstep⟩)
      have hbq203 := below_on hbq202 hstep
      refine hK.out _ _ (HS2.out _ hbq203) (fun hHq203 => ?_)
      clear hK K hHq202 hstep
      refine wpAnyH_ready (rs := [18]) (by kernel_rfl) (by simp) ?_
      refine AllReadyH.cons (o := { dst := some 87, op := Op.call { callee := Callee.value (Operand.func 25), args := #[Operand.tmp 86], argTypes := #[25] }, type := 3, pos := "extra.go:84", after := #[{ on := 17, ground := Ground.data }, { on := 13, ground := Ground.chain }, { on := 11, ground := Ground.guard }], guard := some (11, true) }) rfl (fun K hK => ?_) AllReadyH.nil
      go_simp
      go_wp2_with (refine (HBy.out _ hbq203).mono ?_; rintro e xq204 ⟨rfl, hstep⟩)
      have hbq204 := below_on hbq203 hstep
      refine hK.out _ _ (HS2.out _ hbq204) (fun hHq204 => ?_)
      clear hK K hHq203 hstep
      refine wpAnyH_take (i := 19) (oi := { dst := some 88, op := Op.binOp BinOp.eql 3 (Operand.tmp 82) (Operand.tmp 87) 3, type := 4, pos := "extra.go:84", after := #[{ on := 13, ground := Ground.data }, { on := 18, ground := Ground.data }, { on := 11, ground := Ground.guard }], guard := some (11, true) }) (v := ?vq20x36) rfl (by kernel_rfl) (by kernel_rfl) (by kernel_rfl) (fun _ _ _ h => h) (Or.inl ⟨by rfl, ?hyq20x36⟩) (by assumption) ?restq20x36
      case hyq20x36 => (intro w hSw; (try dsimp only at hSw); go_simp; first | done | with_reducible rfl)
      simp only [Act.put, List.setIfInBounds_toArray, List.set_cons_zero, List.set_cons_succ]
      refine wpAnyH_take (i := 20) (oi := { dst := some 89, op := Op.pick (Operand.tmp 80) (Operand.tmp 88) (Operand.const (Value.bool false)), type := 4, pos := "extra.go:84", after := #[{ on := 11, ground := Ground.data }, { on := 19, ground := Ground.data }], guard := none }) (v := ?vq20x37) rfl (by kernel_rfl) (by kernel_rfl) (by kernel_rfl) (fun _ _ _ h => h) (Or.inl ⟨by rfl, ?hyq20x37⟩) (by assumption) ?restq20x37
      case hyq20x37 => (intro w hSw; (try dsimp only at hSw); go_simp; first | done | with_reducible rfl)
      simp only [Act.put, List.setIfInBounds_toArray, List.set_cons_zero, List.set_cons_succ]
      refine wpAnyH_take (i := 21) (oi := { dst := some 2, op := Op.assign (Operand.tmp 89), type := 4, pos := "extra.go:84", after := #[{ on := 20, ground := Ground.data }, { on := 18, ground := Ground.chain }, { on := 0, ground := Ground.phase }, { on := 1, ground := Ground.phase }, { on := 2, ground := Ground.phase }, { on := 3, ground := Ground.phase }, { on := 4, ground := Ground.phase }, { on := 5, ground := Ground.phase }, { on := 6, ground := Ground.phase }, { on := 7, ground := Ground.phase }, { on := 8, ground := Ground.phase }, { on := 9, ground := Ground.phase }, { on := 10, ground := Ground.phase }, { on := 11, ground := Ground.phase }, { on := 12, ground := Ground.phase }, { on := 13, ground := Ground.phase }, { on := 14, ground := Ground.phase }, { on := 15, ground := Ground.phase }, { on := 16, ground := Ground.phase }, { on := 17, ground := Ground.phase }, { on := 18, ground := Ground.phase }, { on := 19, ground := Ground.phase }, { on := 20, ground := Ground.phase }], guard := none }) (v := ?vq20x38) rfl (by kernel_rfl) (by kernel_rfl) (by kernel_rfl) (fun _ _ _ h => h) (Or.inl ⟨by rfl, ?hyq20x38⟩) (by assumption) ?restq20x38
      case hyq20x38 => (intro w hSw; (try dsimp only at hSw); go_simp; first | done | with_reducible rfl)
      simp only [Act.put, List.setIfInBounds_toArray, List.set_cons_zero, List.set_cons_succ]
      refine wpAnyH_done (by kernel_rfl) ?_ _
      clear hHq204
      have HF := Lib.hid (below_on HBl.out (below_on HF2.out hbq204))
      go_wp2_with fail
      go_ret
      exact ⟨rfl, HF.out⟩
end Go.Proofs.YtipgimmgjdgdeaaDoor
