/- Walks of package proof, eighth part: Ticket. -/
import Derived.Test.YtnnokbipcenbgaaDoorPg
set_option linter.unusedVariables false
set_option linter.unusedSimpArgs false
set_option linter.unnecessarySimpa false
namespace Go.Proofs.YtnnokbipcenbgaaDoor
open Go.RowKit
attribute [local go_sem] run_store_flt

theorem own_move {w w' : World} {base n size : Nat} {e : TypeId} {v : Value} {xs : List Value} (h : w.ownsRow base e size v n xs) (hm : ∀ b, base ≤ b → w'.heap[b]? = w.heap[b]?) : w'.ownsRow base e size v n xs := by
  refine ⟨h.1, ?_⟩
  rcases h.2 with h0 | ⟨g, cap, cur, hv, hb, hg, hr⟩
  · exact .inl h0
  · exact .inr ⟨g, cap, cur, hv, hb, (hm g hb).trans hg, hr⟩
def RowQ (B : Nat) (d : Bs) (v : Value) (w1 : World) : Prop := w1.ownsRow B 5 1 v d.length (bvs d)
theorem RowQ.slice {B : Nat} {d : Bs} {v : Value} {w1 : World} (h : RowQ B d v w1) : ∃ A n c, v = .slice A n c := by
  obtain ⟨A, c, rfl, _⟩ := own_slice h
  exact ⟨A, _, c, rfl⟩
set_option maxRecDepth 8000 in
set_option maxHeartbeats 800000 in
theorem ticketC_yes (es : Er → Addr) (w : World) (p q r : Addr) (K : Option Addr) (kc : Nat) (key : Bs) (who : ByteArray) (n : Int) (hE : PEnv w es) (hK : RdC (· < w.heap.size) w K (bvs key)) (hkc : key.length ≤ kc)
    (hp : w.cell? p = some (.slice K key.length kc)) (hpb : p.block < w.heap.size) (hq : w.cell? q = some (.string who)) (hqb : q.block < w.heap.size) (hr : w.cell? r = some (.int .i64 n)) (hrb : r.block < w.heap.size)
    (hs : secretOk key = true) (hw : whoOk who.data.toList = true) (hn : numOk n = true) :
    Calls Tryd.prog 23 #[.agg #[], .pointer (some p), .pointer (some q), .pointer (some r)] w (RowP w (ticketB key who.data.toList n.toNat)) := by
  have hs2 := of_decide_eq_true hs
  have hw2 := of_decide_eq_true hw
  rw [str_size] at hw2
  have hn2 := of_decide_eq_true hn
  obtain ⟨u, rfl⟩ := Int.eq_ofNat_of_zero_le hn2.1
  rw [Int.toNat_natCast]
  have hb0 := below_box w (Obj.cells #[] 52)
  have c1 := cell_on hp hpb hb0
  have hu : u ≤ 1099511627776 := by omega
  have hk64 : key.length ≤ 64 := hs2.2
  have hw16 : who.size ≤ 16 := hw2.2
  have HE := Lib.hid hE
  have HK := Lib.hid hK
  have HB := Lib.hid hb0
  have HP := Lib.hid hp
  have HQ := Lib.hid hq
  have HR := Lib.hid hr
  have HS := Lib.hid hs
  have HW := Lib.hid hw
  have HN := Lib.hid hn
  clear hE hK hb0 hp hq hr hs hw hn hs2 hw2 hn2
  go_enter Tryd.func23, Tryd.ntmps23
  go_wp2_with fail
  refine (secret_yes es _ K kc key (HE.out.step HB.out) HS.out).mono ?_
  rintro e w1 ⟨rfl, hb1⟩
  have HB1 := Lib.hid (below_on HB.out hb1)
  have c2 := cell_on HQ.out hqb HB1.out
  clear hb1 c1
  go_wp2_with fail
  refine (who_yes es _ who (HE.out.step HB1.out) HW.out).mono ?_
  rintro e w2 ⟨rfl, hb2⟩
  have HB2 := Lib.hid (below_on HB1.out hb2)
  clear c2 hb2
  have c3 := cell_on HR.out hrb HB2.out
  go_wp2_with fail
  refine (num_yes es _ (u : Int) (HE.out.step HB2.out) HN.out).mono ?_
  rintro e w3 ⟨rfl, hb3⟩
  have HB3 := Lib.hid (below_on HB2.out hb3)
  clear c3 hb3
  have c4 := cell_on HP.out hpb HB3.out
  have c5 := cell_on HQ.out hqb HB3.out
  have c6 := cell_on HR.out hrb HB3.out
  go_wp2_with fail
  refine (ticket_any es w3 K kc key who u (HE.out.step HB3.out) (HK.out.step HB3.out) hkc hk64 hw16 hu).mono ?_
  rintro e w4 ⟨v, rfl, hv, hb4⟩
  have HV := Lib.hid (show IsRow w v w4 (ticketB key who.data.toList u) from own_lower hv HB3.out.size)
  have HB4 := Lib.hid (below_on HB3.out hb4)
  clear hv hb4 c4 c5 c6
  go_wp2_with fail
  go_ret
  exact ⟨_, rfl, HV.out, HB4.out⟩
set_option maxRecDepth 8000 in
set_option maxHeartbeats 800000 in
theorem ticketC_no (es : Er → Addr) (w : World) (p q r : Addr) (K : Option Addr) (kc : Nat) (key : Bs) (who : ByteArray) (n : Int) (hE : PEnv w es) 
    (hp : w.cell? p = some (.slice K key.length kc)) (hpb : p.block < w.heap.size) (hq : w.cell? q = some (.string who)) (hqb : q.block < w.heap.size) (hr : w.cell? r = some (.int .i64 n)) (hrb : r.block < w.heap.size)
    (h : secretOk key = false ∨ whoOk who.data.toList = false ∨ numOk n = false) :
    Calls Tryd.prog 23 #[.agg #[], .pointer (some p), .pointer (some q), .pointer (some r)] w (NoP w (es .range)) := by
  have hb0 := below_box w (Obj.cells #[] 52)
  have HE := Lib.hid hE
  have HB0 := Lib.hid hb0
  have HP := Lib.hid hp
  have HQ := Lib.hid hq
  have HR := Lib.hid hr
  have HH := Lib.hid h
  clear hE hb0 hp hq hr h
  cases hc0 : secretOk key with
  | false =>
    have HC0 := Lib.hid hc0
    clear hc0
    have c1 := cell_on HP.out hpb HB0.out
    go_enter Tryd.func23, Tryd.ntmps23
    go_wp2_with fail
    refine (secret_no es _ K kc key (HE.out.step HB0.out) HC0.out).mono ?_
    rintro e w1 ⟨rfl, hb1⟩
    exact ⟨rfl, rfl, below_on HB0.out hb1⟩
  | true =>
    have HC0 := Lib.hid hc0
    clear hc0
    cases hc1 : whoOk who.data.toList with
    | false =>
      have HC1 := Lib.hid hc1
      clear hc1
      have c1 := cell_on HP.out hpb HB0.out
      go_enter Tryd.func23, Tryd.ntmps23
      go_wp2_with fail
      refine (secret_yes es _ K kc key (HE.out.step HB0.out) HC0.out).mono ?_
      rintro e w1 ⟨rfl, hb1⟩
      have HB1 := Lib.hid (below_on HB0.out hb1)
      clear hb1 c1
      have c2 := cell_on HQ.out hqb HB1.out
      go_wp2_with fail
      refine (who_no es _ who (HE.out.step HB1.out) HC1.out).mono ?_
      rintro e w2 ⟨rfl, hb2⟩
      exact ⟨rfl, rfl, below_on HB1.out hb2⟩
    | true =>
      have HC1 := Lib.hid hc1
      clear hc1
      have hc2 : numOk n = false := ((HH.out).resolve_left (by rw [HC0.out]; simp)).resolve_left (by rw [HC1.out]; simp)
      have HC2 := Lib.hid hc2
      clear hc2
      have c1 := cell_on HP.out hpb HB0.out
      go_enter Tryd.func23, Tryd.ntmps23
      go_wp2_with fail
      refine (secret_yes es _ K kc key (HE.out.step HB0.out) HC0.out).mono ?_
      rintro e w1 ⟨rfl, hb1⟩
      have HB1 := Lib.hid (below_on HB0.out hb1)
      clear hb1 c1
      have c2 := cell_on HQ.out hqb HB1.out
      go_wp2_with fail
      refine (who_yes es _ who (HE.out.step HB1.out) HC1.out).mono ?_
      rintro e w2 ⟨rfl, hb2⟩
      have HB2 := Lib.hid (below_on HB1.out hb2)
      clear hb2 c2
      have c3 := cell_on HR.out hrb HB2.out
      go_wp2_with fail
      refine (num_no es _ n (HE.out.step HB2.out) HC2.out).mono ?_
      rintro e w3 ⟨rfl, hb3⟩
      exact ⟨rfl, rfl, below_on HB2.out hb3⟩
set_option maxRecDepth 8000 in
set_option maxHeartbeats 800000 in
theorem Ticket_any (es : Er → Addr) (w : World) (K : Option Addr) (kc : Nat) (key : Bs) (who : ByteArray) (n : Int) (hE : PEnv w es) (hK : RdC (· < w.heap.size) w K (bvs key)) (hkc : key.length ≤ kc) :
    Calls Tryd.prog 9 #[.slice K key.length kc, .string who, .int .i64 n] w (OrErr w es (ticketR key who.data.toList n) IsRow) := by
  have hcf : ∀ (args : Array Value) (w : World), (callFunc 23 args).run Tryd.prog w = .ok (.enter 23 args) w := run_enter Tryd.func23 (by kernel_rfl) (by kernel_rfl)
  have hb2 := box3_below w (.slice K key.length kc) (.string who) (.int .i64 n) 22 9 3
  have hs2 := box3_size w (.slice K key.length kc) (.string who) (.int .i64 n) 22 9 3
  obtain ⟨hp, hq, hr3⟩ := box3_cells w (.slice K key.length kc) (.string who) (.int .i64 n) 22 9 3
  have hb3 := below_on hb2 (askWB_below _)
  have hsz := askWB_size (box3 w (.slice K key.length kc) (.string who) (.int .i64 n) 22 9 3)
  have hp3 := cell_on hp (by rw [hs2]; show w.heap.size < _; omega) (askWB_below _)
  have hq3 := cell_on hq (by rw [hs2]; show w.heap.size + 1 < _; omega) (askWB_below _)
  have hr4 := cell_on hr3 (by rw [hs2]; show w.heap.size + 2 < _; omega) (askWB_below _)
  have hmf := makeFunc_run
  have hE3 := hE.step hb3
  have hK3 := hK.step hb3
  rw [hs2] at hsz
  by_cases hok : secretOk key = true ∧ whoOk who.data.toList = true ∧ numOk n = true
  · have hr : ticketR key who.data.toList n = .ok (ticketB key who.data.toList n.toNat) := by unfold ticketR; rw [if_pos hok]
    have hdo := askedB_yes _ 23 #[.pointer (some ⟨w.heap.size, 0, none⟩), .pointer (some ⟨w.heap.size + 1, 0, none⟩), .pointer (some ⟨w.heap.size + 2, 0, none⟩)] (RowQ (w.heap.size + 5) (ticketB key who.data.toList n.toNat)) hcf (fun v w h => h.slice)
      ((ticketC_yes es _ ⟨w.heap.size, 0, none⟩ ⟨w.heap.size + 1, 0, none⟩ ⟨w.heap.size + 2, 0, none⟩ K kc key who n hE3 hK3 hkc hp3 (by rw [hsz]; show w.heap.size < _; omega) hq3 (by rw [hsz]; show w.heap.size + 1 < _; omega) hr4 (by rw [hsz]; show w.heap.size + 2 < _; omega) hok.1 hok.2.1 hok.2.2).mono fun e w' h => by
        obtain ⟨v, rfl, hv, hb⟩ := h
        unfold IsRow at hv
        rw [hsz] at hv
        exact ⟨v, rfl, hv, hb⟩)
    rw [hr]
    generalize ticketB key who.data.toList n.toNat = D at *
    unfold box3 at hdo hb2 hs2
    have HD := Lib.hid hdo
    have HB2 := Lib.hid hb2
    have HS2 := Lib.hid hs2
    clear hcf hb2 hb3 hsz hs2 hp hq hr3 hp3 hq3 hr4 hE3 hK3 hdo hr hok hE hK
    go_enter Tryd.func9, Tryd.ntmps9
    go_wp2_with fail
    refine HD.out.mono ?_
    rintro e w4 ⟨v, w3, rfl, hv, hb4, _, hblk⟩
    have HV := Lib.hid (show IsRow w v w4 D from own_lower (own_move hv (fun b hb => hblk b (by rw [HS2.out]; omega))) (by omega))
    have HB4 := Lib.hid (below_on HB2.out hb4)
    clear hv hb4 hblk
    go_wp2_with fail
    go_ret2
    exact ⟨HB4.out, _, rfl, HV.out⟩
  · have hr : ticketR key who.data.toList n = .error .range := by unfold ticketR; rw [if_neg hok]
    have hor : secretOk key = false ∨ whoOk who.data.toList = false ∨ numOk n = false := by
      cases h1 : secretOk key with
      | false => exact .inl rfl
      | true =>
        cases h2 : whoOk who.data.toList with
        | false => exact .inr (.inl rfl)
        | true =>
          cases h3 : numOk n with
          | false => exact .inr (.inr rfl)
          | true => exact absurd ⟨h1, h2, h3⟩ hok
    have hdo := askedB_no _ 23 #[.pointer (some ⟨w.heap.size, 0, none⟩), .pointer (some ⟨w.heap.size + 1, 0, none⟩), .pointer (some ⟨w.heap.size + 2, 0, none⟩)] (es .range) hcf
      (ticketC_no es _ ⟨w.heap.size, 0, none⟩ ⟨w.heap.size + 1, 0, none⟩ ⟨w.heap.size + 2, 0, none⟩ K kc key who n hE3 hp3 (by rw [hsz]; show w.heap.size < _; omega) hq3 (by rw [hsz]; show w.heap.size + 1 < _; omega) hr4 (by rw [hsz]; show w.heap.size + 2 < _; omega) hor)
    rw [hr]
    unfold box3 at hdo hb2
    have HD := Lib.hid hdo
    have HB2 := Lib.hid hb2
    clear hcf hb2 hb3 hsz hs2 hp hq hr3 hp3 hq3 hr4 hE3 hK3 hdo hr hok hE hK hor
    go_enter Tryd.func9, Tryd.ntmps9
    go_wp2_with fail
    refine HD.out.mono ?_
    rintro e w4 ⟨rfl, hb4⟩
    have HB4 := Lib.hid (below_on HB2.out hb4)
    clear hb4
    unfold errV
    go_wp2_with fail
    go_ret2
    exact ⟨HB4.out, rfl⟩
end Go.Proofs.YtnnokbipcenbgaaDoor
