/- Walks of package proof, eighth part: Ticket. -/
import Derived.Test.YtnnokbipcenbgaaDoorPf
set_option linter.unusedVariables false
set_option linter.unusedSimpArgs false
set_option linter.unnecessarySimpa false
namespace Go.Proofs.YtnnokbipcenbgaaDoor
open Go.RowKit
attribute [local go_sem] run_store_flt

/-- Is the proof right? -/
def rightR (key nonce who pr : Bs) : Bool := match proveR key nonce who with
  | .ok d => decide (d = pr)
  | .error _ => false
theorem proveR_er {key nonce who : Bs} {er : Er} (h : proveR key nonce who = .error er) : er = .range := by
  unfold proveR at h
  split at h
  · cases h
  · cases h; rfl
theorem IsArr.reads {n : Nat} {w w' : World} {v : Value} {d : Bs} (h : IsArr n w v w' d) (hn : n ≤ 32) : ∃ g, v = .slice (some ⟨g, 0, none⟩) n n ∧ w.heap.size ≤ g ∧ d.length = n ∧ RdC (fun k => k = g) w' (some ⟨g, 0, none⟩) (bvs d) := by
  obtain ⟨g, D, rfl, hg, ha, hD, rfl⟩ := h
  exact ⟨g, rfl, hg, by rw [List.length_take, hD]; omega, by rw [bvs_take]; exact ha.reads.take n⟩
def RightP (w : World) (b : Bool) (e : Ending) (w' : World) : Prop := e = .returned (.bool b) ∧ Below w.heap.size w w'
set_option maxRecDepth 8000 in
set_option maxHeartbeats 800000 in
theorem right_any10 (es : Er → Addr) (w : World) (K N R : Option Addr) (kc nc rc : Nat) (key nonce pr : Bs) (who : ByteArray) (hE : PEnv w es) (hK : RdC (· < w.heap.size) w K (bvs key)) (hkc : key.length ≤ kc) (hN : RdC (· < w.heap.size) w N (bvs nonce))
    (hR : RdC (· < w.heap.size) w R (bvs pr)) (hrl : pr.length ≤ 9223372036854775807) :
    Calls Tryd.prog 12 #[.slice K key.length kc, .slice N nonce.length nc, .string who, .slice R pr.length rc] w (RightP w (rightR key nonce who.data.toList pr)) := by
  have hpr := prove_any es w K N kc nc key nonce who hE hK hkc hN
  have HPr := Lib.hid hpr
  have HR := Lib.hid hR
  clear hpr hR hE hK hN
  go_enter Tryd.func12, Tryd.ntmps12
  go_wp2_with fail
  refine HPr.out.mono ?_
  rintro e w1 ⟨hb1, hres⟩
  have HB1 := Lib.hid hb1
  have HR1 := Lib.hid (HR.out.step hb1)
  clear hb1
  cases hr : proveR key nonce who.data.toList with
  | ok d =>
    have HRr := Lib.hid (show rightR key nonce who.data.toList pr = decide (d = pr) by unfold rightR; rw [hr])
    rw [hr] at hres
    obtain ⟨v, rfl, hq⟩ := hres
    obtain ⟨g, rfl, hg, hdl, hrd⟩ := hq.reads (by omega)
    have hal := alike_any w1 _ _ (some ⟨g, 0, none⟩) R 32 rc d pr hrd HR1.out (by omega) hrl
    rw [hdl] at hal
    have HAl := Lib.hid hal
    clear hr hq hrd hal hdl HPr
    go_wp2_with fail
    refine HAl.out.mono ?_
    rintro e w2 ⟨rfl, n, rfl⟩
    go_wp2_with fail
    go_ret
    exact ⟨by rw [HRr.out]; rfl, below_drewN HB1.out n⟩
  | error er =>
    have HRr := Lib.hid (show rightR key nonce who.data.toList pr = false by unfold rightR; rw [hr])
    rw [hr] at hres
    obtain rfl := proveR_er hr
    clear hr HPr
    unfold errV at hres
    obtain rfl := hres
    go_wp2_with fail
    go_ret
    exact ⟨by rw [HRr.out]; rfl, HB1.out⟩
/-! ### ticket -/
theorem lnk_byte (u k : Nat) : Value.int .u8 ((u : Int) / 2 ^ (8 * k) % 256) = bv (UInt8.ofNat (u / 256 ^ k)) := by
  have := shr_byte u (8 * k)
  rw [Nat.shiftRight_eq_div_pow, Nat.pow_mul] at this
  exact this
/-- A row of bytes of the call's own. -/
def IsRow (w : World) (v : Value) (w' : World) (d : Bs) : Prop := w'.ownsRow w.heap.size 5 1 v d.length (bvs d)
def RowP (w : World) (d : Bs) (e : Ending) (w' : World) : Prop := ∃ v, e = .returned v ∧ IsRow w v w' d ∧ Below w.heap.size w w'
theorem cost_two' (a : ByteArray) (n : Int) : cost [⟨0, 0, a⟩, ⟨n, 0, noStr⟩] = 16 + a.size := by
  have h : cost [⟨0, 0, a⟩, ⟨n, 0, noStr⟩] = 8 + a.size + (8 + noStr.size) := by simp [cost]
  rw [h, show noStr.size = 0 from rfl]
  omega
theorem ticketB_len (key who : Bs) (n : Nat) : (ticketB key who n).length = 32 := by unfold ticketB; rw [List.length_append, be_length, List.length_take, keyed_len]; rfl
set_option maxRecDepth 8000 in
set_option maxHeartbeats 1600000 in
theorem ticket_any (es : Er → Addr) (w : World) (K : Option Addr) (kc : Nat) (key : Bs) (who : ByteArray) (u : Nat) (hE : PEnv w es) (hK : RdC (· < w.heap.size) w K (bvs key)) (hkc : key.length ≤ kc) (hkl : key.length ≤ 64) (hwl : who.size ≤ 16) (hu : u ≤ 1099511627776) :
    Calls Tryd.prog 27 #[.slice K key.length kc, .string who, .int .i64 u] w (RowP w (ticketB key who.data.toList u)) := by
  obtain ⟨i0, hi, hz0, hz1, hz2⟩ := info_parts infoU8h
  have hws := str_size who
  have henc := enc_tq who (u : Int) (by omega) (by omega) (by omega)
  rw [Int.toNat_natCast] at henc
  have hel : ((be who.size 1 ++ who.data.toList) ++ be u 8).length ≤ 1000000 := by
    simp only [List.length_append, be_length]
    omega
  have hcl : cost [⟨0, 0, who⟩, ⟨(u : Int), 0, noStr⟩] ≤ 140737488355328 := by
    rw [cost_two' who u]; omega
  have hnum : ∀ c ∈ ([⟨0, 0, who⟩, ⟨(u : Int), 0, noStr⟩] : List Cell), c.n ≤ 9223372036854775807 := by
    intro c hc
    simp only [List.mem_cons, List.not_mem_nil, or_false] at hc
    rcases hc with rfl | rfl
    · show (0 : Int) ≤ _; omega
    · show (u : Int) ≤ _; omega
  have htk : ticketB key who.data.toList u = be u 8 ++ (keyed key (116 :: ((be who.size 1 ++ who.data.toList) ++ be u 8))).take 24 := by unfold ticketB; rw [hws]
  have hdl := keyed_len key (116 :: ((be who.size 1 ++ who.data.toList) ++ be u 8))
  have HE := Lib.hid hE
  have HK := Lib.hid hK
  have HEn := Lib.hid henc
  have HEl := Lib.hid hel
  have HCl := Lib.hid hcl
  have HNum := Lib.hid hnum
  have HTk := Lib.hid htk
  clear hE hK henc hel hcl hws hnum htk
  go_enter Tryd.func27, Tryd.ntmps27
  go_wp2_with (at_make; refine wpList_make_own _ rfl _ _ 22 rfl w.heap.size 5 i0 (.int .u8 0) 1 Tryd.underlying22 hi hz0 hz1 _ _ _ 32 rfl rfl (by simp) (by rw [hz2]; omega) (by unfold maxLen; omega) (Nat.le_refl _) ?_; intro w1 hown hg; have HO1 := Lib.hid hown; have HB1 := Lib.hid (show Below w.heap.size w w1 from ⟨hg.os, hg.tape, hg.output, hg.size, fun k hk => hg.block k hk (by simp)⟩); clear hown hg)
  go_loopw [8, 7] (fun i v wq => ∃ t : Nat, t ≤ 8 ∧ i = .int .i64 (7 - (t : Int)) ∧ wq.ownsRow w.heap.size 5 1 v t (bvs ((be u 8).take t)) ∧ Below w.heap.size w wq) (fun i _ _ => (intOf i + 1).toNat)
  case atStart => exact ⟨0, by omega, rfl, HO1.out, HB1.out⟩
  case round =>
    obtain ⟨t, ht, rfl, hown, hbel⟩ := hrel
    have HO := Lib.hid hown
    have HB := Lib.hid hbel
    have hbw : w.heap.size ≤ wr.heap.size := hbel.size
    clear hown hbel
    by_cases h8 : t < 8
    · have m0 : IntKind.i64.wrap (8 * (7 - (t : Int))) = 8 * (7 - (t : Int)) := IntWalk.i64_in _ (by omega)
      have m2 : (0 : Int) ≤ 8 * (7 - (t : Int)) := by omega
      have m3 : (8 * (7 - (t : Int))).toNat = 8 * (7 - t) := by omega
      have m4 : 8 * (7 - t) < 64 := by omega
      have hsn : (be u 8).take (t + 1) = (be u 8).take t ++ [UInt8.ofNat (u / 256 ^ (7 - t))] := by
        have := be_take u 8 (7 - t) (by omega)
        rw [show 8 - (7 - t) = t + 1 by omega, show 8 - (7 - t + 1) = t by omega] at this
        exact this
      have HSn := Lib.hid hsn
      clear hsn
      go_wp2_with (
        at_builtin
        refine wpList_app1 w.heap.size (.tmp 14) (.tmp 20) 22 5 i0 (.int .u8 0) 1 rfl (by rfl) Tryd.underlying22 hi hz0 hz1 hz2 (by rfl) (by omega) _ t _ _ (by rfl) wr.heap.size rfl (by rfl) HO.out rfl (by omega) (by omega) ?_
        intro v3 w3 hown3 hg3
        have HB3 := Lib.hid (hg3.below HB.out hbw (own_base HO.out))
        have HO3 := Lib.hid hown3
        clear hown3 hg3)
      refine ⟨⟨t + 1, by omega, by simp; omega, ?_, HB3.out⟩, by simp [intOf]; omega⟩
      have h5 := HO3.out
      rw [HSn.out, bvs_append]
      rw [lnk_byte] at h5
      exact h5
    · obtain rfl : t = 8 := by omega
      rw [show (7 : Int) - ((8 : Nat) : Int) = -1 from rfl]
      have ho := HO.out
      rw [List.take_of_length_le (by rw [be_length]; omega)] at ho
      have HO8 := Lib.hid ho
      have hsm := sum_new es wr K kc key 116 116 ⟨#[116, 113]⟩ [⟨0, 0, who⟩, ⟨(u : Int), 0, noStr⟩] #[.int .i64 0, .float .f64 0, .string who, .int .i64 u, .float .f64 0, .string ⟨#[]⟩] 2 _ rfl (HE.out.step (HB.out)) (HK.out.step HB.out) hkc (by omega) rfl rfl (by decide) (by simp) HCl.out HNum.out HEn.out HEl.out
      generalize keyed key (116 :: ((be who.size 1 ++ who.data.toList) ++ be u 8)) = D at *
      have HSm := Lib.hid hsm
      have HDl := Lib.hid hdl
      clear HE HO ho hsm hdl
      go_wp2_with fail
      refine HSm.out.mono ?_
      rintro e w3 ⟨g, rfl, hg, ha, hb3⟩
      have HB3 := Lib.hid (HB.out.trans (hb3.mono hbw))
      have HR3 := Lib.hid (show RdC (fun k => k = g) w3 (some ⟨g, 0, none⟩) (bvs (D.take 24)) by rw [bvs_take]; exact ha.reads.take 24)
      have HO9 := Lib.hid (own_below HO8.out hb3)
      have hbw3 : w.heap.size ≤ w3.heap.size := Nat.le_trans hbw hb3.size
      have HTl := Lib.hid (show (D.take 24).length = 24 by rw [List.length_take, HDl.out]; rfl)
      generalize D.take 24 = d at *
      clear ha hb3
      go_wp2_with (
        at_builtin
        refine wpList_appS (ok := fun k => k = g) _ w.heap.size (.tmp 22) (.tmp 30) 22 5 i0 (.int .u8 0) 1 1 rfl (by rfl) Tryd.underlying22 hi hz0 hz1 hz2 rfl (by omega) (by omega) _ 8 _ (by rfl) HO9.out (some ⟨g, 0, none⟩) 24 32 (bvs d) (by rfl) (by rw [bvs_length, HTl.out]) HR3.out (bvs_one _) (by omega) hbw3 ?_
        intro v4 w4 hown4 hg4
        have HB4 := Lib.hid (hg4.below HB3.out hbw3 (own_base HO9.out))
        have HO4 := Lib.hid hown4
        clear hown4 hg4)
      go_ret
      refine ⟨_, rfl, ?_, HB4.out⟩
      unfold IsRow
      rw [HTk.out, bvs_append, List.length_append, be_length, HTl.out]
      exact HO4.out
end Go.Proofs.YtnnokbipcenbgaaDoor
/- Walks of package proof, seventh part: Right, ticket, Ticket. -/
set_option linter.unusedVariables false
set_option linter.unusedSimpArgs false
set_option linter.unnecessarySimpa false
namespace Go.Proofs.YtnnokbipcenbgaaDoor
open Go.RowKit
attribute [local go_sem] run_store_flt

theorem own_move {w w' : World} {base n size : Nat} {e : TypeId} {v : Value} {xs : List Value} (h : w.ownsRow base e size v n xs) (hm : ∀ b, base ≤ b → w'.heap[b]? = w.heap[b]?) : w'.ownsRow base e size v n xs := by
  refine ⟨h.1, ?_⟩
  rcases h.2 with h0 | ⟨g, cap, cur, hv, hb, hg, hr⟩
  · exact .inl h0
  · exact .inr ⟨g, cap, cur, hv, hb, (hm g hb).trans hg, hr⟩
def RowQ (B : Nat) (d : Bs) (v : Value) (w1 : World) : Prop := w1.ownsRow B 5 1 v d.length (bvs d)
theorem RowQ.slice {B : Nat} {d : Bs} {v : Value} {w1 : World} (h : RowQ B d v w1) : ∃ A n c, v = .slice A n c := by
  obtain ⟨A, c, rfl, _⟩ := own_slice h
  exact ⟨A, _, c, rfl⟩
set_option maxRecDepth 8000 in
set_option maxHeartbeats 800000 in
theorem ticketC_yes (es : Er → Addr) (w : World) (p q r : Addr) (K : Option Addr) (kc : Nat) (key : Bs) (who : ByteArray) (n : Int) (hE : PEnv w es) (hK : RdC (· < w.heap.size) w K (bvs key)) (hkc : key.length ≤ kc)
    (hp : w.cell? p = some (.slice K key.length kc)) (hpb : p.block < w.heap.size) (hq : w.cell? q = some (.string who)) (hqb : q.block < w.heap.size) (hr : w.cell? r = some (.int .i64 n)) (hrb : r.block < w.heap.size)
    (hs : secretOk key = true) (hw : whoOk who.data.toList = true) (hn : numOk n = true) :
    Calls Tryd.prog 23 #[.agg #[], .pointer (some p), .pointer (some q), .pointer (some r)] w (RowP w (ticketB key who.data.toList n.toNat)) := by
  have hs2 := of_decide_eq_true hs
  have hw2 := of_decide_eq_true hw
  rw [str_size] at hw2
  have hn2 := of_decide_eq_true hn
  obtain ⟨u, rfl⟩ := Int.eq_ofNat_of_zero_le hn2.1
  rw [Int.toNat_natCast]
  have hb0 := below_box w (Obj.cells #[] 52)
  have c1 := cell_on hp hpb hb0
  have hu : u ≤ 1099511627776 := by omega
  have hk64 : key.length ≤ 64 := hs2.2
  have hw16 : who.size ≤ 16 := hw2.2
  have HE := Lib.hid hE
  have HK := Lib.hid hK
  have HB := Lib.hid hb0
  have HP := Lib.hid hp
  have HQ := Lib.hid hq
  have HR := Lib.hid hr
  have HS := Lib.hid hs
  have HW := Lib.hid hw
  have HN := Lib.hid hn
  clear hE hK hb0 hp hq hr hs hw hn hs2 hw2 hn2
  go_enter Tryd.func23, Tryd.ntmps23
  go_wp2_with fail
  refine (secret_yes es _ K kc key (HE.out.step HB.out) HS.out).mono ?_
  rintro e w1 ⟨rfl, hb1⟩
  have HB1 := Lib.hid (below_on HB.out hb1)
  have c2 := cell_on HQ.out hqb HB1.out
  clear hb1 c1
  go_wp2_with fail
  refine (who_yes es _ who (HE.out.step HB1.out) HW.out).mono ?_
  rintro e w2 ⟨rfl, hb2⟩
  have HB2 := Lib.hid (below_on HB1.out hb2)
  clear c2 hb2
  have c3 := cell_on HR.out hrb HB2.out
  go_wp2_with fail
  refine (num_yes es _ (u : Int) (HE.out.step HB2.out) HN.out).mono ?_
  rintro e w3 ⟨rfl, hb3⟩
  have HB3 := Lib.hid (below_on HB2.out hb3)
  clear c3 hb3
  have c4 := cell_on HP.out hpb HB3.out
  have c5 := cell_on HQ.out hqb HB3.out
  have c6 := cell_on HR.out hrb HB3.out
  go_wp2_with fail
  refine (ticket_any es w3 K kc key who u (HE.out.step HB3.out) (HK.out.step HB3.out) hkc hk64 hw16 hu).mono ?_
  rintro e w4 ⟨v, rfl, hv, hb4⟩
  have HV := Lib.hid (show IsRow w v w4 (ticketB key who.data.toList u) from own_lower hv HB3.out.size)
  have HB4 := Lib.hid (below_on HB3.out hb4)
  clear hv hb4 c4 c5 c6
  go_wp2_with fail
  go_ret
  exact ⟨_, rfl, HV.out, HB4.out⟩
set_option maxRecDepth 8000 in
set_option maxHeartbeats 800000 in
theorem ticketC_no (es : Er → Addr) (w : World) (p q r : Addr) (K : Option Addr) (kc : Nat) (key : Bs) (who : ByteArray) (n : Int) (hE : PEnv w es) 
    (hp : w.cell? p = some (.slice K key.length kc)) (hpb : p.block < w.heap.size) (hq : w.cell? q = some (.string who)) (hqb : q.block < w.heap.size) (hr : w.cell? r = some (.int .i64 n)) (hrb : r.block < w.heap.size)
    (h : secretOk key = false ∨ whoOk who.data.toList = false ∨ numOk n = false) :
    Calls Tryd.prog 23 #[.agg #[], .pointer (some p), .pointer (some q), .pointer (some r)] w (NoP w (es .range)) := by
  have hb0 := below_box w (Obj.cells #[] 52)
  have HE := Lib.hid hE
  have HB0 := Lib.hid hb0
  have HP := Lib.hid hp
  have HQ := Lib.hid hq
  have HR := Lib.hid hr
  have HH := Lib.hid h
  clear hE hb0 hp hq hr h
  cases hc0 : secretOk key with
  | false =>
    have HC0 := Lib.hid hc0
    clear hc0
    have c1 := cell_on HP.out hpb HB0.out
    go_enter Tryd.func23, Tryd.ntmps23
    go_wp2_with fail
    refine (secret_no es _ K kc key (HE.out.step HB0.out) HC0.out).mono ?_
    rintro e w1 ⟨rfl, hb1⟩
    exact ⟨rfl, rfl, below_on HB0.out hb1⟩
  | true =>
    have HC0 := Lib.hid hc0
    clear hc0
    cases hc1 : whoOk who.data.toList with
    | false =>
      have HC1 := Lib.hid hc1
      clear hc1
      have c1 := cell_on HP.out hpb HB0.out
      go_enter Tryd.func23, Tryd.ntmps23
      go_wp2_with fail
      refine (secret_yes es _ K kc key (HE.out.step HB0.out) HC0.out).mono ?_
      rintro e w1 ⟨rfl, hb1⟩
      have HB1 := Lib.hid (below_on HB0.out hb1)
      clear hb1 c1
      have c2 := cell_on HQ.out hqb HB1.out
      go_wp2_with fail
      refine (who_no es _ who (HE.out.step HB1.out) HC1.out).mono ?_
      rintro e w2 ⟨rfl, hb2⟩
      exact ⟨rfl, rfl, below_on HB1.out hb2⟩
    | true =>
      have HC1 := Lib.hid hc1
      clear hc1
      have hc2 : numOk n = false := ((HH.out).resolve_left (by rw [HC0.out]; simp)).resolve_left (by rw [HC1.out]; simp)
      have HC2 := Lib.hid hc2
      clear hc2
      have c1 := cell_on HP.out hpb HB0.out
      go_enter Tryd.func23, Tryd.ntmps23
      go_wp2_with fail
      refine (secret_yes es _ K kc key (HE.out.step HB0.out) HC0.out).mono ?_
      rintro e w1 ⟨rfl, hb1⟩
      have HB1 := Lib.hid (below_on HB0.out hb1)
      clear hb1 c1
      have c2 := cell_on HQ.out hqb HB1.out
      go_wp2_with fail
      refine (who_yes es _ who (HE.out.step HB1.out) HC1.out).mono ?_
      rintro e w2 ⟨rfl, hb2⟩
      have HB2 := Lib.hid (below_on HB1.out hb2)
      clear hb2 c2
      have c3 := cell_on HR.out hrb HB2.out
      go_wp2_with fail
      refine (num_no es _ n (HE.out.step HB2.out) HC2.out).mono ?_
      rintro e w3 ⟨rfl, hb3⟩
      exact ⟨rfl, rfl, below_on HB2.out hb3⟩
set_option maxRecDepth 8000 in
set_option maxHeartbeats 800000 in
theorem Ticket_any (es : Er → Addr) (w : World) (K : Option Addr) (kc : Nat) (key : Bs) (who : ByteArray) (n : Int) (hE : PEnv w es) (hK : RdC (· < w.heap.size) w K (bvs key)) (hkc : key.length ≤ kc) :
    Calls Tryd.prog 9 #[.slice K key.length kc, .string who, .int .i64 n] w (OrErr w es (ticketR key who.data.toList n) IsRow) := by
  have hcf : ∀ (args : Array Value) (w : World), (callFunc 23 args).run Tryd.prog w = .ok (.enter 23 args) w := run_enter Tryd.func23 (by kernel_rfl) (by kernel_rfl)
  have hb2 := box3_below w (.slice K key.length kc) (.string who) (.int .i64 n) 22 9 3
  have hs2 := box3_size w (.slice K key.length kc) (.string who) (.int .i64 n) 22 9 3
  obtain ⟨hp, hq, hr3⟩ := box3_cells w (.slice K key.length kc) (.string who) (.int .i64 n) 22 9 3
  have hb3 := below_on hb2 (askWB_below _)
  have hsz := askWB_size (box3 w (.slice K key.length kc) (.string who) (.int .i64 n) 22 9 3)
  have hp3 := cell_on hp (by rw [hs2]; show w.heap.size < _; omega) (askWB_below _)
  have hq3 := cell_on hq (by rw [hs2]; show w.heap.size + 1 < _; omega) (askWB_below _)
  have hr4 := cell_on hr3 (by rw [hs2]; show w.heap.size + 2 < _; omega) (askWB_below _)
  have hmf := makeFunc_run
  have hE3 := hE.step hb3
  have hK3 := hK.step hb3
  rw [hs2] at hsz
  by_cases hok : secretOk key = true ∧ whoOk who.data.toList = true ∧ numOk n = true
  · have hr : ticketR key who.data.toList n = .ok (ticketB key who.data.toList n.toNat) := by unfold ticketR; rw [if_pos hok]
    have hdo := askedB_yes _ 23 #[.pointer (some ⟨w.heap.size, 0, none⟩), .pointer (some ⟨w.heap.size + 1, 0, none⟩), .pointer (some ⟨w.heap.size + 2, 0, none⟩)] (RowQ (w.heap.size + 5) (ticketB key who.data.toList n.toNat)) hcf (fun v w h => h.slice)
      ((ticketC_yes es _ ⟨w.heap.size, 0, none⟩ ⟨w.heap.size + 1, 0, none⟩ ⟨w.heap.size + 2, 0, none⟩ K kc key who n hE3 hK3 hkc hp3 (by rw [hsz]; show w.heap.size < _; omega) hq3 (by rw [hsz]; show w.heap.size + 1 < _; omega) hr4 (by rw [hsz]; show w.heap.size + 2 < _; omega) hok.1 hok.2.1 hok.2.2).mono fun e w' h => by
        obtain ⟨v, rfl, hv, hb⟩ := h
        unfold IsRow at hv
        rw [hsz] at hv
        exact ⟨v, rfl, hv, hb⟩)
    rw [hr]
    generalize ticketB key who.data.toList n.toNat = D at *
    unfold box3 at hdo hb2 hs2
    have HD := Lib.hid hdo
    have HB2 := Lib.hid hb2
    have HS2 := Lib.hid hs2
    clear hcf hb2 hb3 hsz hs2 hp hq hr3 hp3 hq3 hr4 hE3 hK3 hdo hr hok hE hK
    go_enter Tryd.func9, Tryd.ntmps9
    go_wp2_with fail
    refine HD.out.mono ?_
    rintro e w4 ⟨v, w3, rfl, hv, hb4, _, hblk⟩
    have HV := Lib.hid (show IsRow w v w4 D from own_lower (own_move hv (fun b hb => hblk b (by rw [HS2.out]; omega))) (by omega))
    have HB4 := Lib.hid (below_on HB2.out hb4)
    clear hv hb4 hblk
    go_wp2_with fail
    go_ret2
    exact ⟨HB4.out, _, rfl, HV.out⟩
  · have hr : ticketR key who.data.toList n = .error .range := by unfold ticketR; rw [if_neg hok]
    have hor : secretOk key = false ∨ whoOk who.data.toList = false ∨ numOk n = false := by
      cases h1 : secretOk key with
      | false => exact .inl rfl
      | true =>
        cases h2 : whoOk who.data.toList with
        | false => exact .inr (.inl rfl)
        | true =>
          cases h3 : numOk n with
          | false => exact .inr (.inr rfl)
          | true => exact absurd ⟨h1, h2, h3⟩ hok
    have hdo := askedB_no _ 23 #[.pointer (some ⟨w.heap.size, 0, none⟩), .pointer (some ⟨w.heap.size + 1, 0, none⟩), .pointer (some ⟨w.heap.size + 2, 0, none⟩)] (es .range) hcf
      (ticketC_no es _ ⟨w.heap.size, 0, none⟩ ⟨w.heap.size + 1, 0, none⟩ ⟨w.heap.size + 2, 0, none⟩ K kc key who n hE3 hp3 (by rw [hsz]; show w.heap.size < _; omega) hq3 (by rw [hsz]; show w.heap.size + 1 < _; omega) hr4 (by rw [hsz]; show w.heap.size + 2 < _; omega) hor)
    rw [hr]
    unfold box3 at hdo hb2
    have HD := Lib.hid hdo
    have HB2 := Lib.hid hb2
    clear hcf hb2 hb3 hsz hs2 hp hq hr3 hp3 hq3 hr4 hE3 hK3 hdo hr hok hE hK hor
    go_enter Tryd.func9, Tryd.ntmps9
    go_wp2_with fail
    refine HD.out.mono ?_
    rintro e w4 ⟨rfl, hb4⟩
    have HB4 := Lib.hid (below_on HB2.out hb4)
    clear hb4
    unfold errV
    go_wp2_with fail
    go_ret2
    exact ⟨HB4.out, rfl⟩
end Go.Proofs.YtnnokbipcenbgaaDoor
