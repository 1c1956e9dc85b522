/- Walks of package proof, seventh part: Right, ticket, Ticket. -/
import Derived.Test.YtnnokbipcenbgaaDoorPf
set_option linter.unusedVariables false
set_option linter.unusedSimpArgs false
set_option linter.unnecessarySimpa false
namespace Go.Proofs.YtnnokbipcenbgaaDoor
open Go.RowKit
attribute [local go_sem] run_store_flt

/-- Is the proof right? -/
def rightR (key nonce who pr : Bs) : Bool := match proveR key nonce who with
  | .ok d => decide (d = pr)
  | .error _ => false
theorem proveR_er {key nonce who : Bs} {er : Er} (h : proveR key nonce who = .error er) : er = .range := by
  unfold proveR at h
  split at h
  · cases h
  · cases h; rfl
theorem IsArr.reads {n : Nat} {w w' : World} {v : Value} {d : Bs} (h : IsArr n w v w' d) (hn : n ≤ 32) : ∃ g, v = .slice (some ⟨g, 0, none⟩) n n ∧ w.heap.size ≤ g ∧ d.length = n ∧ RdC (fun k => k = g) w' (some ⟨g, 0, none⟩) (bvs d) := by
  obtain ⟨g, D, rfl, hg, ha, hD, rfl⟩ := h
  exact ⟨g, rfl, hg, by rw [List.length_take, hD]; omega, by rw [bvs_take]; exact ha.reads.take n⟩
def RightP (w : World) (b : Bool) (e : Ending) (w' : World) : Prop := e = .returned (.bool b) ∧ Below w.heap.size w w'
set_option maxRecDepth 8000 in
set_option maxHeartbeats 800000 in
theorem right_any10 (es : Er → Addr) (w : World) (K N R : Option Addr) (kc nc rc : Nat) (key nonce pr : Bs) (who : ByteArray) (hE : PEnv w es) (hK : RdC (· < w.heap.size) w K (bvs key)) (hkc : key.length ≤ kc) (hN : RdC (· < w.heap.size) w N (bvs nonce))
    (hR : RdC (· < w.heap.size) w R (bvs pr)) (hrl : pr.length ≤ 9223372036854775807) :
    Calls Tryd.prog 12 #[.slice K key.length kc, .slice N nonce.length nc, .string who, .slice R pr.length rc] w (RightP w (rightR key nonce who.data.toList pr)) := by
  have hpr := prove_any es w K N kc nc key nonce who hE hK hkc hN
  have HPr := Lib.hid hpr
  have HR := Lib.hid hR
  clear hpr hR hE hK hN
  go_enter Tryd.func12, Tryd.ntmps12
  go_wp2_with fail
  refine HPr.out.mono ?_
  rintro e w1 ⟨hb1, hres⟩
  have HB1 := Lib.hid hb1
  have HR1 := Lib.hid (HR.out.step hb1)
  clear hb1
  cases hr : proveR key nonce who.data.toList with
  | ok d =>
    have HRr := Lib.hid (show rightR key nonce who.data.toList pr = decide (d = pr) by unfold rightR; rw [hr])
    rw [hr] at hres
    obtain ⟨v, rfl, hq⟩ := hres
    obtain ⟨g, rfl, hg, hdl, hrd⟩ := hq.reads (by omega)
    have hal := alike_any w1 _ _ (some ⟨g, 0, none⟩) R 32 rc d pr hrd HR1.out (by omega) hrl
    rw [hdl] at hal
    have HAl := Lib.hid hal
    clear hr hq hrd hal hdl HPr
    go_wp2_with fail
    refine HAl.out.mono ?_
    rintro e w2 ⟨rfl, n, rfl⟩
    go_wp2_with fail
    go_ret
    exact ⟨by rw [HRr.out]; rfl, below_drewN HB1.out n⟩
  | error er =>
    have HRr := Lib.hid (show rightR key nonce who.data.toList pr = false by unfold rightR; rw [hr])
    rw [hr] at hres
    obtain rfl := proveR_er hr
    clear hr HPr
    unfold errV at hres
    obtain rfl := hres
    go_wp2_with fail
    go_ret
    exact ⟨by rw [HRr.out]; rfl, HB1.out⟩
/-! ### ticket -/
theorem lnk_byte (u k : Nat) : Value.int .u8 ((u : Int) / 2 ^ (8 * k) % 256) = bv (UInt8.ofNat (u / 256 ^ k)) := by
  have := shr_byte u (8 * k)
  rw [Nat.shiftRight_eq_div_pow, Nat.pow_mul] at this
  exact this
/-- A row of bytes of the call's own. -/
def IsRow (w : World) (v : Value) (w' : World) (d : Bs) : Prop := w'.ownsRow w.heap.size 5 1 v d.length (bvs d)
def RowP (w : World) (d : Bs) (e : Ending) (w' : World) : Prop := ∃ v, e = .returned v ∧ IsRow w v w' d ∧ Below w.heap.size w w'
theorem cost_two' (a : ByteArray) (n : Int) : cost [⟨0, 0, a⟩, ⟨n, 0, noStr⟩] = 16 + a.size := by
  have h : cost [⟨0, 0, a⟩, ⟨n, 0, noStr⟩] = 8 + a.size + (8 + noStr.size) := by simp [cost]
  rw [h, show noStr.size = 0 from rfl]
  omega
theorem ticketB_len (key who : Bs) (n : Nat) : (ticketB key who n).length = 32 := by unfold ticketB; rw [List.length_append, be_length, List.length_take, keyed_len]; rfl
set_option maxRecDepth 8000 in
set_option maxHeartbeats 1600000 in
theorem ticket_any (es : Er → Addr) (w : World) (K : Option Addr) (kc : Nat) (key : Bs) (who : ByteArray) (u : Nat) (hE : PEnv w es) (hK : RdC (· < w.heap.size) w K (bvs key)) (hkc : key.length ≤ kc) (hkl : key.length ≤ 64) (hwl : who.size ≤ 16) (hu : u ≤ 1099511627776) :
    Calls Tryd.prog 27 #[.slice K key.length kc, .string who, .int .i64 u] w (RowP w (ticketB key who.data.toList u)) := by
  obtain ⟨i0, hi, hz0, hz1, hz2⟩ := info_parts infoU8h
  have hws := str_size who
  have henc := enc_tq who (u : Int) (by omega) (by omega) (by omega)
  rw [Int.toNat_natCast] at henc
  have hel : ((be who.size 1 ++ who.data.toList) ++ be u 8).length ≤ 1000000 := by
    simp only [List.length_append, be_length]
    omega
  have hcl : cost [⟨0, 0, who⟩, ⟨(u : Int), 0, noStr⟩] ≤ 140737488355328 := by
    rw [cost_two' who u]; omega
  have hnum : ∀ c ∈ ([⟨0, 0, who⟩, ⟨(u : Int), 0, noStr⟩] : List Cell), c.n ≤ 9223372036854775807 := by
    intro c hc
    simp only [List.mem_cons, List.not_mem_nil, or_false] at hc
    rcases hc with rfl | rfl
    · show (0 : Int) ≤ _; omega
    · show (u : Int) ≤ _; omega
  have htk : ticketB key who.data.toList u = be u 8 ++ (keyed key (116 :: ((be who.size 1 ++ who.data.toList) ++ be u 8))).take 24 := by unfold ticketB; rw [hws]
  have hdl := keyed_len key (116 :: ((be who.size 1 ++ who.data.toList) ++ be u 8))
  have HE := Lib.hid hE
  have HK := Lib.hid hK
  have HEn := Lib.hid henc
  have HEl := Lib.hid hel
  have HCl := Lib.hid hcl
  have HNum := Lib.hid hnum
  have HTk := Lib.hid htk
  clear hE hK henc hel hcl hws hnum htk
  go_enter Tryd.func27, Tryd.ntmps27
  go_wp2_with (at_make; refine wpList_make_own _ rfl _ _ 22 rfl w.heap.size 5 i0 (.int .u8 0) 1 Tryd.underlying22 hi hz0 hz1 _ _ _ 32 rfl rfl (by simp) (by rw [hz2]; omega) (by unfold maxLen; omega) (Nat.le_refl _) ?_; intro w1 hown hg; have HO1 := Lib.hid hown; have HB1 := Lib.hid (show Below w.heap.size w w1 from ⟨hg.os, hg.tape, hg.output, hg.size, fun k hk => hg.block k hk (by simp)⟩); clear hown hg)
  go_loopw [8, 7] (fun i v wq => ∃ t : Nat, t ≤ 8 ∧ i = .int .i64 (7 - (t : Int)) ∧ wq.ownsRow w.heap.size 5 1 v t (bvs ((be u 8).take t)) ∧ Below w.heap.size w wq) (fun i _ _ => (intOf i + 1).toNat)
  case atStart => exact ⟨0, by omega, rfl, HO1.out, HB1.out⟩
  case round =>
    obtain ⟨t, ht, rfl, hown, hbel⟩ := hrel
    have HO := Lib.hid hown
    have HB := Lib.hid hbel
    have hbw : w.heap.size ≤ wr.heap.size := hbel.size
    clear hown hbel
    by_cases h8 : t < 8
    · have m0 : IntKind.i64.wrap (8 * (7 - (t : Int))) = 8 * (7 - (t : Int)) := IntWalk.i64_in _ (by omega)
      have m2 : (0 : Int) ≤ 8 * (7 - (t : Int)) := by omega
      have m3 : (8 * (7 - (t : Int))).toNat = 8 * (7 - t) := by omega
      have m4 : 8 * (7 - t) < 64 := by omega
      have hsn : (be u 8).take (t + 1) = (be u 8).take t ++ [UInt8.ofNat (u / 256 ^ (7 - t))] := by
        have := be_take u 8 (7 - t) (by omega)
        rw [show 8 - (7 - t) = t + 1 by omega, show 8 - (7 - t + 1) = t by omega] at this
        exact this
      have HSn := Lib.hid hsn
      clear hsn
      go_wp2_with (
        at_builtin
        refine wpList_app1 w.heap.size (.tmp 14) (.tmp 20) 22 5 i0 (.int .u8 0) 1 rfl (by rfl) Tryd.underlying22 hi hz0 hz1 hz2 (by rfl) (by omega) _ t _ _ (by rfl) wr.heap.size rfl (by rfl) HO.out rfl (by omega) (by omega) ?_
        intro v3 w3 hown3 hg3
        have HB3 := Lib.hid (hg3.below HB.out hbw (own_base HO.out))
        have HO3 := Lib.hid hown3
        clear hown3 hg3)
      refine ⟨⟨t + 1, by omega, by simp; omega, ?_, HB3.out⟩, by simp [intOf]; omega⟩
      have h5 := HO3.out
      rw [HSn.out, bvs_append]
      rw [lnk_byte] at h5
      exact h5
    · obtain rfl : t = 8 := by omega
      rw [show (7 : Int) - ((8 : Nat) : Int) = -1 from rfl]
      have ho := HO.out
      rw [List.take_of_length_le (by rw [be_length]; omega)] at ho
      have HO8 := Lib.hid ho
      have hsm := sum_new es wr K kc key 116 116 ⟨#[116, 113]⟩ [⟨0, 0, who⟩, ⟨(u : Int), 0, noStr⟩] #[.int .i64 0, .float .f64 0, .string who, .int .i64 u, .float .f64 0, .string ⟨#[]⟩] 2 _ rfl (HE.out.step (HB.out)) (HK.out.step HB.out) hkc (by omega) rfl rfl (by decide) (by simp) HCl.out HNum.out HEn.out HEl.out
      generalize keyed key (116 :: ((be who.size 1 ++ who.data.toList) ++ be u 8)) = D at *
      have HSm := Lib.hid hsm
      have HDl := Lib.hid hdl
      clear HE HO ho hsm hdl
      go_wp2_with fail
      refine HSm.out.mono ?_
      rintro e w3 ⟨g, rfl, hg, ha, hb3⟩
      have HB3 := Lib.hid (HB.out.trans (hb3.mono hbw))
      have HR3 := Lib.hid (show RdC (fun k => k = g) w3 (some ⟨g, 0, none⟩) (bvs (D.take 24)) by rw [bvs_take]; exact ha.reads.take 24)
      have HO9 := Lib.hid (own_below HO8.out hb3)
      have hbw3 : w.heap.size ≤ w3.heap.size := Nat.le_trans hbw hb3.size
      have HTl := Lib.hid (show (D.take 24).length = 24 by rw [List.length_take, HDl.out]; rfl)
      generalize D.take 24 = d at *
      clear ha hb3
      go_wp2_with (
        at_builtin
        refine wpList_appS (ok := fun k => k = g) _ w.heap.size (.tmp 22) (.tmp 30) 22 5 i0 (.int .u8 0) 1 1 rfl (by rfl) Tryd.underlying22 hi hz0 hz1 hz2 rfl (by omega) (by omega) _ 8 _ (by rfl) HO9.out (some ⟨g, 0, none⟩) 24 32 (bvs d) (by rfl) (by rw [bvs_length, HTl.out]) HR3.out (bvs_one _) (by omega) hbw3 ?_
        intro v4 w4 hown4 hg4
        have HB4 := Lib.hid (hg4.below HB3.out hbw3 (own_base HO9.out))
        have HO4 := Lib.hid hown4
        clear hown4 hg4)
      go_ret
      refine ⟨_, rfl, ?_, HB4.out⟩
      unfold IsRow
      rw [HTk.out, bvs_append, List.length_append, be_length, HTl.out]
      exact HO4.out
end Go.Proofs.YtnnokbipcenbgaaDoor
