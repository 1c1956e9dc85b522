/- Walk of the statement ScanStays. -/
import Derived.Test.YtpekagkhgegefaaDoorSk
set_option linter.unusedVariables false
set_option linter.unusedSimpArgs false
set_option linter.unnecessarySimpa false
namespace Go.Proofs.YtpekagkhgegefaaDoor
open Go.RowKit
attribute [local go_sem] run_store_flt

theorem run_err_neqS (a : Addr) (w : World) : (binOp .neq 30 (.iface 147 (.pointer (some a))) (.iface 147 (.pointer (some a)))).run Tryd.prog w = .ok (.bool false) w := by
  obtain ⟨i, hi, hc⟩ := Option.map_eq_some_iff.1 infoErr
  obtain ⟨j, hj, hs⟩ := Option.map_eq_some_iff.1 infoErrS
  simp only [binOp]
  simp [Op.equal, Op.maxDepth, run_equalIn_iface_ptr_same w 9998 a Tryd.underlying30 Tryd.underlying147 hi hc hj]
/-- Rows of bytes, as cells: addresses, lengths. -/
def SlV (vs : List Value) (ns : List Nat) : Prop := vs.length = ns.length ∧ ∀ (i : Nat) (n : Nat), ns[i]? = some n → ∃ A c, vs[i]? = some (.slice A n c)
theorem SlV.get {vs : List Value} {ns : List Nat} (h : SlV vs ns) (i : Nat) (hi : i < ns.length) : ∃ A c, vs[i]? = some (.slice A ns[i] c) := h.2 i _ (List.getElem?_eq_getElem hi)
theorem SlV.one {vs : List Value} {ns : List Nat} (h : SlV vs ns) : ∀ u ∈ vs, u.oneCell' = true := by
  intro u hu
  obtain ⟨i, hi, rfl⟩ := List.getElem_of_mem hu
  obtain ⟨A, c, e⟩ := h.get i (by have := h.1; omega)
  rw [List.getElem?_eq_getElem hi] at e
  rw [Option.some.inj e]
  rfl
theorem SlV.snoc {vs : List Value} {ns : List Nat} (h : SlV vs ns) (A : Option Addr) (n c : Nat) : SlV (vs ++ [.slice A n c]) (ns ++ [n]) := by
  refine ⟨by simp [h.1], fun i m hm => ?_⟩
  by_cases hi : i < ns.length
  · rw [List.getElem?_append_left hi] at hm
    obtain ⟨A, c, e⟩ := h.2 i m hm
    exact ⟨A, c, by rw [List.getElem?_append_left (by have := h.1; omega)]; exact e⟩
  · rw [List.getElem?_append_right (by omega)] at hm
    have h0 : i - ns.length = 0 := by
      have := (List.getElem?_eq_some_iff.1 hm).1
      simp at this
      omega
    rw [h0] at hm
    simp at hm
    subst hm
    exact ⟨A, c, by rw [List.getElem?_append_right (by have := h.1; omega), h.1, h0]; rfl⟩
theorem SlV.of_rows {ok : Nat → Prop} {w : World} {vs : List Value} {ps : List Bs} (h : RowsOf ok w vs ps) : SlV vs (ps.map List.length) := by
  refine ⟨by simp [h.1], fun i n hn => ?_⟩
  have hi : i < ps.length := by
    have := (List.getElem?_eq_some_iff.1 hn).1
    simpa using this
  obtain ⟨A, c, e, _⟩ := h.2 i hi
  simp [hi] at hn
  subst hn
  exact ⟨A, c, e⟩
def total (ns : List Nat) : Nat := (ns.map (· + 1)).sum
theorem total_take (ns : List Nat) (k : Nat) (h : k < ns.length) : total (ns.take (k + 1)) = total (ns.take k) + (ns[k] + 1) := by
  unfold total
  rw [List.take_succ_eq_append_getElem h, List.map_append, List.sum_append]
  simp only [List.map_cons, List.map_nil, List.sum_cons, List.sum_nil]
  omega
theorem total_len (ns : List Nat) : ns.length ≤ total ns := by
  unfold total
  induction ns with
  | nil => simp
  | cons n ns ih => simp at ih ⊢; omega
/-- What few answers: if it is true, there are few. -/
def FewP (w : World) (ns : List Nat) (e : Ending) (w' : World) : Prop := w' = w ∧ ∃ r, e = .returned (.bool r) ∧ (r = true → total ns ≤ 20000)
set_option maxRecDepth 8000 in
set_option maxHeartbeats 3200000 in
theorem few_any (w : World) (A : Option Addr) (c : Nat) (vs : List Value) (ns : List Nat) (hR : RdC (· < w.heap.size) w A vs) (hv : SlV vs ns) (hl : ns.length ≤ 9223372036854775807) (hm : ∀ n ∈ ns, n ≤ 9223372036854775807) :
    Calls Tryd.prog 20 #[.slice A ns.length c] w (FewP w ns) := by
  have HR := Lib.hid hR
  have HV := Lib.hid hv
  have HM := Lib.hid hm
  clear hR hv hm
  go_enter Tryd.func20, Tryd.ntmps20
  go_wp2_with fail
  go_loopw [3, 8] (fun nv iv wr => ∃ k : Nat, k ≤ ns.length ∧ iv = .int .i64 k ∧ nv = .int .i64 (total (ns.take k) : Nat) ∧ total (ns.take k) ≤ 40001 ∧ wr = w) (fun _ iv _ => ns.length - (intOf iv).toNat)
  case atStart => exact ⟨0, Nat.zero_le _, rfl, rfl, by simp [total], rfl⟩
  case round =>
    obtain ⟨k, hk, rfl, rfl, ht, rfl⟩ := hrel
    by_cases hlt : k < ns.length
    · obtain ⟨A1, c1, hcs⟩ := HV.out.get k hlt
      obtain ⟨ad, rfl, hadb, hcc⟩ := HR.out (by intro e; rw [e] at hcs; simp at hcs)
      have hcell := hcc k _ hcs
      have htk := total_take ns k hlt
      have hmn := HM.out _ (List.getElem_mem hlt)
      generalize ns[k] = n at *
      have HTk := Lib.hid htk
      have j0 : (0 : Int) ≤ (k : Int) := by omega
      have j1 : (k : Int) < (ns.length : Int) := by omega
      have j3 : IntKind.i64.wrap ((k : Int) + 1) = (k : Int) + 1 := IntWalk.i64_in _ (by omega)
      generalize total (ns.take k) = t at *
      clear hcc htk hcs
      by_cases hbig : 20000 < t
      · have k1 : (20000 : Int) < (t : Int) := by omega
        clear hbig
        go_wp2_with fail
        go_ret
        exact ⟨rfl, false, rfl, fun h => by cases h⟩
      · have k1 : ¬ (20000 : Int) < (t : Int) := by omega
        by_cases hn : 20000 < n
        · have k2 : (20000 : Int) < (n : Int) := by omega
          clear hbig hn
          go_wp2_with fail
          go_ret
          exact ⟨rfl, false, rfl, fun h => by cases h⟩
        · have k2 : ¬ (20000 : Int) < (n : Int) := by omega
          have j4 : IntKind.i64.wrap (1 + (n : Int)) = 1 + (n : Int) := IntWalk.i64_in _ (by omega)
          have j5 : IntKind.i64.wrap ((t : Int) + (1 + (n : Int))) = (t : Int) + (1 + (n : Int)) := IntWalk.i64_in _ (by omega)
          clear hbig hn
          go_wp2_with fail
          go_roundw
          case rel => exact ⟨k + 1, by omega, by go_num, by rw [HTk.out]; exact congrArg (Value.int .i64) (by omega), by rw [HTk.out]; omega, trivial⟩
          case measure => simp [intOf]; omega
    · have hkk : k = ns.length := by omega
      have j1 : ¬ (k : Int) < (ns.length : Int) := by omega
      have htt : total (ns.take k) = total ns := by rw [hkk, List.take_length]
      rw [htt]
      have ht' : total ns ≤ 40001 := by rw [← htt]; exact ht
      obtain ⟨t, hT⟩ : ∃ t, t = total ns := ⟨_, rfl⟩
      rw [← hT] at ht' ⊢
      have HT := Lib.hid hT
      clear hT
      by_cases hle : t ≤ 20000
      · have k1 : (t : Int) ≤ 20000 := by omega
        clear htt ht
        go_wp2_with fail
        go_ret
        exact ⟨rfl, true, by simp [k1], fun _ => by rw [← HT.out]; exact hle⟩
      · have k1 : ¬ (t : Int) ≤ 20000 := by omega
        clear htt ht
        go_wp2_with fail
        go_ret
        exact ⟨rfl, false, by simp [k1], fun h => by cases h⟩
theorem scan_ff : scanB [255, 255] = ([], 0, true) := Took.nil.bad (nx_bad_len (by decide) (by decide))
theorem infoRows : (Tryd.prog.info? 23).map (fun i => (i.zero, i.size, i.bytes)) = some (some (.slice none 0 0), 1, 24) := by kernel_rfl
set_option maxRecDepth 8000 in
set_option maxHeartbeats 6400000 in
theorem stays_walk (es : Er → Addr) (w : World) (A B : Option Addr) (c cb : Nat) (fs : List Fr) (vs : List Value) (ns : List Nat) (hE : GEnv w es) (hBk : ErrAt w.heap.size w 1 (es .broken)) (hR : RdFs w A fs) (hl : ∀ f ∈ fs, f.lens) (hfl : fs.length ≤ 9223372036854775807)
    (hV : RdC (· < w.heap.size) w B vs) (hs : SlV vs ns) (hnl : ns.length ≤ 9223372036854775807) (hnm : ∀ n ∈ ns, n ≤ 9223372036854775807) (nb : Nat) (hnb : nb = ns.length) :
    Calls Tryd.prog 11 #[.slice A fs.length c, .slice B nb cb] w (OkPost w) := by
  subst hnb
  have HAl := Lib.hid (alive06 es w hE)
  have HE := Lib.hid hE
  have HBk := Lib.hid hBk
  have HR := Lib.hid hR
  have HLs := Lib.hid hl
  have HV := Lib.hid hV
  have HSl := Lib.hid hs
  have HNm := Lib.hid hnm
  have hen := run_err_neqS
  clear hE hBk hR hl hV hs hnm
  go_enter Tryd.func11, Tryd.ntmps11
  go_wp2_with fail
  refine HAl.out.mono ?_
  rintro e w1 ⟨rfl, hb1⟩
  have HB1 := Lib.hid hb1
  have HFw := Lib.hid (few_any w1 B cb vs ns (HV.out.step hb1) HSl.out hnl HNm.out)
  clear hb1
  go_wp2_with fail
  refine HFw.out.mono ?_
  rintro e w1' ⟨rfl, r, rfl, hr⟩
  cases r with
  | false =>
    go_wp2_with fail
    go_ret
    exact ⟨rfl, HB1.out⟩
  | true =>
    have hnt : ns.length ≤ 20000 := Nat.le_trans (total_len ns) (hr rfl)
    have HNs := Lib.hid (snew_any w1')
    clear hr HFw
    go_wp2_with fail
    refine HNs.out.mono ?_
    rintro e w2 ⟨rfl, hb2, hs2, hh2⟩
    have hsc : ScanAt w1'.heap.size w2 w1'.heap.size (.slice none 0 0) [] false := ⟨hh2, ⟨rfl, .inl ⟨rfl, rfl⟩⟩, Nat.le_refl _, by simp [Value.ownBlock]⟩
    obtain ⟨w5, hw5⟩ : ∃ W, W = w2.alloc (Obj.cells #[.int .u8 255, .int .u8 255] 5) := ⟨_, rfl⟩
    have hb5 : Below w2.heap.size w2 w5 := by rw [hw5]; exact below_box _ _
    have hrd5 : RdC (· < w5.heap.size) w5 (some ⟨w2.heap.size, 0, none⟩) (bvs [255, 255]) := by
      rw [hw5]
      exact (RdC.new w2 #[.int .u8 255, .int .u8 255] 5).mono (fun k hk => by rw [hk]; simp)
    have hz1 : w.heap.size ≤ w1'.heap.size := HB1.out.size
    have hfe := feed_any es w1'.heap.size w5 w1'.heap.size (.slice none 0 0) [] [255, 255] (some ⟨w2.heap.size, 0, none⟩) 2 w HE.out (HB1.out.trans ((hb2.trans (hb5.mono hb2.size)).mono hz1)) hz1 (hsc.on hb5) hrd5 (by simp)
    unfold FeedP at hfe
    rw [List.nil_append, scan_ff] at hfe
    simp only at hfe
    have HFe := Lib.hid hfe
    have HW5 := Lib.hid hw5.symm
    have HB5 := Lib.hid (hb2.trans (hb5.mono hb2.size))
    clear hb2 hs2 hh2 hsc hw5 hb5 hrd5 hfe HNs
    go_wp2_with (rw [HW5.out])
    refine HFe.out.mono ?_
    rintro e w3 ⟨L, cs, hown, hfr, hch, hres⟩
    have hB3 : Below w1'.heap.size w1' w3 := HB5.out.trans (hch.below HB5.out.size (fun i hi e => by
      rcases e with rfl | e
      · exact Nat.le_refl _
      · cases e))
    have HB3 := Lib.hid (HB1.out.trans (hB3.mono hz1))
    obtain ⟨AL, cL, rfl, hcL, _⟩ := own_slice hown
    rcases hres with ⟨h, _⟩ | ⟨_, rfl, hsc⟩
    · cases h
    · have HSc := Lib.hid hsc
      have he := ((HE.out.step HB3.out).frame).at
      have hz3 : w.heap.size ≤ w3.heap.size := HB3.out.size
      unfold errV at he
      clear hown hfr hch hB3 hsc HFe
      unfold errV
      go_wp2_with fail
      clear he
      go_loopw [1, 33] (fun mv iv wr => ∃ (i : Nat) (vs' : List Value) (ns' : List Nat) (Am : Option Addr) (cm : Nat), i ≤ fs.length ∧ iv = .int .i64 i ∧ mv = .slice Am ns'.length cm ∧ SlV vs' ns' ∧ RdC (· < wr.heap.size) wr Am vs' ∧ ns'.length ≤ 20000 + i ∧ ns'.length ≤ 20040 ∧ Below w3.heap.size w3 wr) (fun _ iv _ => fs.length - (intOf iv).toNat)
      case atStart => exact ⟨0, vs, ns, B, cb, Nat.zero_le _, rfl, rfl, HSl.out, HV.out.step HB3.out, by omega, by omega, Below.refl _ _⟩
      case round =>
        obtain ⟨i, vs', ns', Am, cm, hi, rfl, rfl, hsl, hrv, hn1, hn2, hbel⟩ := hrel
        have HBel := Lib.hid hbel
        have HSv := Lib.hid hsl
        have HRv := Lib.hid hrv
        have hBw := below_on HB3.out hbel
        have HBw := Lib.hid hBw
        have hzr := hbel.size
        by_cases hlt : i < fs.length
        · obtain ⟨ad, A1, c1, rfl, hadb, hfr, hr⟩ := (HR.out.step hBw).at i hlt
          have hlf := HLs.out _ (List.getElem_mem hlt)
          generalize fs[i] = f at *
          obtain ⟨w4, hw4⟩ : ∃ W, W = wr.alloc (Obj.cells #[.int .i64 f.kind, .int .i64 f.seq, .int .i64 f.got, .int .i64 f.stream, .int .i64 f.amount, .int .i64 f.code, .string f.who, .string f.name, .float .f64 f.weight, .slice A1 f.bytes.length c1] 25) := ⟨_, rfl⟩
          have hb4 : Below wr.heap.size wr w4 := by rw [hw4]; exact below_box _ _
          have hf4 : FrC w4 wr.heap.size f A1 c1 := by rw [hw4]; exact FrC.box wr f A1 c1 _
          have hs4 : w4.heap.size = wr.heap.size + 1 := by rw [hw4]; simp
          have hput := putF_any es f A1 c1 w4 ((HE.out.step (below_on hBw hb4)).fenv) hlf (hr.step hb4)
          have HPut := Lib.hid hput
          have HB4 := Lib.hid (hbel.trans (hb4.mono hzr))
          have HRv4 := Lib.hid (hrv.step hb4)
          have HW4 := Lib.hid hw4.symm
          obtain ⟨a0, a1, a2, a3, a4, a5, a6, a7, a8, a9⟩ := hfr
          obtain ⟨d0, d1, d2, d3, d4, d5, d6, d7, d8, d9⟩ := hf4
          have j0 : (0 : Int) ≤ (i : Int) := by omega
          have j1 : (i : Int) < (fs.length : Int) := by omega
          have j3 : IntKind.i64.wrap ((i : Int) + 1) = (i : Int) + 1 := IntWalk.i64_in _ (by omega)
          have hcb1 : (ad.add (i * 10)).block < wr.heap.size := by rw [add_block]; exact hadb
          have hlt4 : wr.heap.size < w4.heap.size := by omega
          obtain ⟨q0, hq, qz0, qz1, qz2⟩ := info_parts infoRows
          clear hput hw4 hb4 hs4 hr hbel hBw hsl hrv hlf
          cases hck : checkF f with
          | false =>
            have HPut2 := Lib.hid (HPut.out.mono fun e w' h => h.er hck)
            clear hck HPut
            unfold frV at HPut2
            go_wp2_with (rw [HW4.out])
            refine HPut2.out.mono ?_
            rintro e w6 ⟨rfl, hb6⟩
            have HB6 := Lib.hid (HB4.out.trans (hb6.mono HB4.out.size))
            have HRv6 := Lib.hid (HRv4.out.step hb6)
            clear hb6 a0 a1 a2 a3 a4 a5 a6 a7 a8 a9 d0 d1 d2 d3 d4 d5 d6 d7 d8 d9
            unfold errV
            go_wp2_with fail
            go_roundw
            case rel => exact ⟨i + 1, vs', ns', Am, cm, by omega, by go_num, rfl, HSv.out, HRv6.out, by omega, hn2, HB6.out⟩
            case measure => simp [intOf]; omega
          | true =>
            have HPut2 := Lib.hid (HPut.out.mono fun e w' h => h.ok hck)
            clear hck HPut
            unfold frV at HPut2
            go_wp2_with (rw [HW4.out])
            refine HPut2.out.mono ?_
            rintro e w6 ⟨hb6, PA, cp, rfl, hcp, hop⟩
            have HB6 := Lib.hid (HB4.out.trans (hb6.mono HB4.out.size))
            have HRv6 := Lib.hid (HRv4.out.step hb6)
            generalize (putF f).length = pl at *
            clear hb6 hop a0 a1 a2 a3 a4 a5 a6 a7 a8 a9 d0 d1 d2 d3 d4 d5 d6 d7 d8 d9
            by_cases h40 : i < 40
            · have k0 : (i : Int) < 40 := by omega
              have hown0 : (w6.alloc (Obj.cells #[] 23)).ownsRow w6.heap.size 23 1 (.slice (some ⟨w6.heap.size, 0, none⟩) 0 0) 0 [] := World.ownsRow_lit w6 #[] 0 (Nat.le_refl _) (by unfold maxLen; omega) rfl
              have HO0 := Lib.hid hown0
              have HRv7 := Lib.hid (HRv6.out.step (below_box w6 (Obj.cells #[] 23)))
              have hvl := HSv.out.1
              clear hown0 h40
              go_wp2_with (first
                | (at_builtin; refine wpList_appS (ok := (· < (w6.alloc (Obj.cells #[] 23)).heap.size)) _ w6.heap.size (.tmp 49) (.tmp 50) 38 23 q0 _ 1 24 (by rfl) (by rfl) Tryd.underlying38 hq qz0 qz1 qz2 rfl (by omega) (by omega) _ 0 [] (by rfl) HO0.out _ ns'.length _ vs' (by rfl) (by omega) HRv7.out HSv.out.one (by omega) (by simp) ?_; intro v8 w8 hown8 hg8)
                | (at_builtin; refine wpList_app1 (W := w8) w6.heap.size (.tmp 51) (.tmp 53) 38 23 q0 _ 24 (by rfl) (by rfl) Tryd.underlying38 hq qz0 qz1 qz2 rfl (by omega) v8 (0 + ns'.length) ([] ++ vs') (.slice PA pl cp) (by rfl) w8.heap.size rfl (by rfl) hown8 rfl (by omega) (by have := hg8.by_.size; simp at this; omega) ?_; intro v9 w9 hown9 hg9))
              obtain ⟨A9, c9, rfl, _, _⟩ := own_slice hown9
              have hb8 : Below w3.heap.size w3 w8 := hg8.below (HB6.out.alloc HB6.out.size _) (by have := HB6.out.size; simp; omega) (fun k hk => by have h1 : w6.heap.size = k := Option.some.inj hk; have := HB6.out.size; omega)
              have hb9 : Below w3.heap.size w3 w9 := hg9.below hb8 hb8.size (fun k hk => by have := (hown8.lt k hk).1; have := HB6.out.size; omega)
              refine ⟨⟨i + 1, vs' ++ [.slice PA pl cp], ns' ++ [pl], A9, c9, by omega, by go_num, by simp, HSv.out.snoc _ _ _, ?_, by simp; omega, by simp; omega, hb9⟩, by simp [intOf]; omega⟩
              have h := (RdC.of_own hown9).mono (ok' := (· < w9.heap.size)) (fun k hk => hk.2)
              simpa using h
            · have k0 : ¬ (i : Int) < 40 := by omega
              clear h40
              go_wp2_with fail
              go_roundw
              case rel => exact ⟨i + 1, vs', ns', Am, cm, by omega, by go_num, rfl, HSv.out, HRv6.out, by omega, hn2, HB6.out⟩
              case measure => simp [intOf]; omega
        · have j1 : ¬ (i : Int) < (fs.length : Int) := by omega
          clear hbel hBw hsl hrv
          go_wp2_with fail
          obtain ⟨wq, rfl⟩ : ∃ W, W = wr := ⟨_, rfl⟩
          go_loopw [58] (fun jv wx => ∃ j : Nat, j ≤ ns'.length ∧ jv = .int .i64 j ∧ Below wq.heap.size wq wx) (fun jv _ => ns'.length - (intOf jv).toNat)
          case atStart => exact ⟨0, Nat.zero_le _, rfl, Below.refl _ _⟩
          case round =>
            obtain ⟨j, hj, rfl, hbx⟩ := hrel
            have HBx := Lib.hid hbx
            have HBx3 := Lib.hid (HBel.out.trans (hbx.mono hzr))
            have hsx := HSc.out.on HBx3.out
            have HSx := Lib.hid hsx
            by_cases hjl : j < ns'.length
            · obtain ⟨A1, c1, hcs⟩ := HSv.out.get j hjl
              obtain ⟨ad, rfl, hadb, hcc⟩ := (HRv.out.step hbx) (by intro e; rw [e] at hcs; simp at hcs)
              have hcell := hcc j _ hcs
              generalize ns'[j] = pn at *
              have HBwx := Lib.hid (below_on HB3.out HBx3.out)
              have hbk := (HBk.out.below HBwx.out).at
              have HFb := Lib.hid (feed_broken (es .broken) w1'.heap.size wr w1'.heap.size (.slice none 0 0) (.slice A1 pn c1) [] hbk hsx)
              have i0 : (0 : Int) ≤ (j : Int) := by omega
              have i1 : (j : Int) < (ns'.length : Int) := by omega
              have i3 : IntKind.i64.wrap ((j : Int) + 1) = (j : Int) + 1 := IntWalk.i64_in _ (by omega)
              clear hcc hcs hbx hsx hbk
              go_wp2_with fail
              refine HFb.out.mono ?_
              rintro e w7 ⟨rfl, n7, hw7⟩
              have hb7 : Below wr.heap.size wr w7 := by rw [hw7]; exact below_drewN (Below.refl _ _) _
              have HB7 := Lib.hid (HBx.out.trans (hb7.mono HBx.out.size))
              have hs7 := HSx.out.on hb7
              have HBr := Lib.hid (broken_any w1'.heap.size w7 w1'.heap.size _ _ true hs7)
              have HHe := Lib.hid (held_any w1'.heap.size w7 w1'.heap.size _ _ true hs7)
              have hbk7 := (HBk.out.below (below_on HBwx.out hb7)).at
              unfold errV at hbk7
              clear hw7 hb7 hs7
              unfold errV
              go_wp2_with fail
              refine HBr.out.mono ?_
              rintro e w8 ⟨rfl, rfl⟩
              go_wp2_with fail
              refine HHe.out.mono ?_
              rintro e w8 ⟨rfl, rfl⟩
              go_wp2_with fail
              go_roundw
              case rel => exact ⟨j + 1, by omega, by go_num, HB7.out⟩
              case measure => simp [intOf]; omega
            · have i1 : ¬ (j : Int) < (ns'.length : Int) := by omega
              clear hbx hsx
              go_wp2_with fail
              go_ret
              exact ⟨rfl, below_on HB3.out HBx3.out⟩
end Go.Proofs.YtpekagkhgegefaaDoor
