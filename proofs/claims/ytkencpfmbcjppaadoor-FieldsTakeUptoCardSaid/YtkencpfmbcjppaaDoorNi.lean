/- FieldsTake's walk. -/
import Derived.Test.YtkencpfmbcjppaaDoorNh
set_option linter.unusedVariables false
set_option linter.unusedSimpArgs false
set_option linter.unnecessarySimpa false
namespace Go.Proofs.YtkencpfmbcjppaaDoor
open Go.RowKit
attribute [local go_sem] run_store_flt cellV errV

theorem num_nil2 (w : World) : Calls Tryd.prog 19 #[.nilIface] w (fun e w' => e = .returned (.int .i64 0) ∧ Below w.heap.size w w') :=
  (num_nil w).mono fun e w' ⟨h1, h2⟩ => ⟨h1, h2 ▸ Below.refl _ _⟩
set_option maxRecDepth 4000 in
set_option maxHeartbeats 1000000 in
theorem take_ok (es : Er → Addr) (w : World) (s : ByteArray) (A : Option Addr) (c : Nat) (b : Bs) (cs : List Cell) (hE : E18 w.heap.size w es) (hs : s.size ≤ 2000000) (hb : b.length ≤ 2000000) (hcb : b.length ≤ c) (hR : RdC (· < w.heap.size) w A (bvs b))
    (h1 : decode s.data.toList b = .ok cs) :
    Calls Tryd.prog 8 #[.string s, .slice A b.length c] w (OkPost w) := by
  obtain ⟨_, hcl, _, _⟩ := enc_dec h1
  have hcs : cs.length ≤ 2000000 := by rw [hcl]; rw [show s.data.toList.length = s.size from Array.length_toList]; exact hs
  clear hcl
  have H1 := Lib.hid h1
  clear h1
  go_enter Tryd.func8, Tryd.ntmps8
  go_wp2_with fail
  refine (alive_any es w hE.five).mono ?_
  rintro e w0 ⟨rfl, hb0⟩
  have HE0 := Lib.hid (hE.step hb0)
  have HB0 := Lib.hid hb0
  have HR0 := Lib.hid (hR.step hb0)
  clear hb0 hE hR
  go_wp2_with fail
  refine (bytes_any w0 A b.length c b rfl (by omega) HR0.out).mono ?_
  rintro e w1 ⟨hb1, A1, c1, rfl, hc1, hcm1, hrd1⟩
  have HE1 := Lib.hid (HE0.out.step hb1)
  have HB1 := Lib.hid (show Below w.heap.size w w1 from HB0.out.trans (hb1.mono HB0.out.size))
  have HR1 := Lib.hid (HR0.out.step hb1)
  have HM1 := Lib.hid (hrd1.mono (ok' := (· < w1.heap.size)) (fun _ h => h.2))
  have hi1 : RdC (· < w1.heap.size) w1 A1 (bvs b) := by
    have := HM1.out.take b.length
    simpa [bvs, List.map_append] using this
  have HI1 := Lib.hid hi1
  clear hb1 hrd1 hi1 HE0 HB0 HR0
  have hde := decode_any es w1 s A1 b.length c1 b rfl HE1.out.five HI1.out (by omega) (by omega) (by omega)
  rw [H1.out] at hde
  have HDe := Lib.hid hde
  clear hde
  go_wp2_with fail
  refine HDe.out.mono ?_
  rintro e w2 ⟨hb2, v2, rfl, hown2⟩
  obtain ⟨A2, c2, rfl, hc2, _⟩ := own_slice hown2
  have HC2 := Lib.hid ((RdC.of_own hown2).mono (ok' := (· < w2.heap.size)) (fun _ h => h.2))
  clear hown2
  have HE2 := Lib.hid (HE1.out.step hb2)
  have HB2 := Lib.hid (show Below w.heap.size w w2 from HB1.out.trans (hb2.mono HB1.out.size))
  have HM2 := Lib.hid (HM1.out.step hb2)
  have HI2 := Lib.hid (HI1.out.step hb2)
  have HR2 := Lib.hid (HR1.out.step hb2)
  have HSo := Lib.hid (some_any es w2 s A1 b.length c1 b rfl HE2.out.five HI2.out (by omega) (by omega) (by omega))
  clear hb2 HDe HE1 HB1 HM1 HI1 HR1
  go_wp2_with fail
  refine HSo.out.mono ?_
  rintro e w3 ⟨rfl, hb3⟩
  have HE3 := Lib.hid (HE2.out.step hb3)
  have HB3 := Lib.hid (show Below w.heap.size w w3 from HB2.out.trans (hb3.mono HB2.out.size))
  have HM3 := Lib.hid (HM2.out.step hb3)
  have HR3 := Lib.hid (HR2.out.step hb3)
  have HC3 := Lib.hid (HC2.out.step hb3)
  clear HC2
  have hrd := rdecode_any w3 s A b.length c b rfl HR3.out (by omega) hcb (by omega)
  rw [H1.out] at hrd
  have HRd := Lib.hid hrd
  clear hb3 hrd HSo HE2 HB2 HM2 HI2 HR2
  go_wp2_with fail
  refine HRd.out.mono ?_
  rintro e w4 ⟨hb4, v4, rfl, hown4⟩
  obtain ⟨A4, c4, rfl, hc4, _⟩ := own_slice hown4
  have HW4 := Lib.hid ((RdC.of_own hown4).mono (ok' := (· < w4.heap.size)) (fun _ h => h.2))
  have HC4 := Lib.hid (HC3.out.step hb4)
  clear hown4 HC3
  have HE4 := Lib.hid (HE3.out.step hb4)
  have HB4 := Lib.hid (show Below w.heap.size w w4 from HB3.out.trans (hb4.mono HB3.out.size))
  have HM4 := Lib.hid (HM3.out.step hb4)
  have HR4 := Lib.hid (HR3.out.step hb4)
  have HRs := Lib.hid (rsome_any w4 s A b.length c b rfl HR4.out (by omega) hcb (by omega))
  clear hb4 HRd HE3 HB3 HM3 HR3
  go_wp2_with fail
  refine HRs.out.mono ?_
  rintro e w5 ⟨rfl, hb5⟩
  have HE5 := Lib.hid (HE4.out.step hb5)
  have HB5 := Lib.hid (show Below w.heap.size w w5 from HB4.out.trans (hb5.mono HB4.out.size))
  have HM5 := Lib.hid (HM4.out.step hb5)
  have HR5 := Lib.hid (HR4.out.step hb5)
  have HSm := Lib.hid (same_any w5 A2 A4 cs.length c2 c4 cs rfl (by omega) (HC4.out.step hb5) (HW4.out.step hb5))
  clear HC4 HW4
  clear hb5 HRs HE4 HB4 HM4 HR4
  generalize (someAt s.data.toList b).1 = n1 at *
  generalize (someAt s.data.toList b).2 = n2 at *
  go_wp2_with (first
    | (go_at_call 24; refine HSm.out.mono ?_; rintro e w6 ⟨rfl, hb6⟩; have HE6 := Lib.hid (HE5.out.step hb6); have HB6 := Lib.hid (show Below w.heap.size w w6 from HB5.out.trans (hb6.mono HB5.out.size)); have HM6 := Lib.hid (HM5.out.step hb6); have HR6 := Lib.hid (HR5.out.step hb6); clear hb6)
    | (go_at_call 19; refine (num_nil2 w6).mono ?_; rintro e w7 ⟨rfl, hb7⟩; have HB7 := Lib.hid (show Below w.heap.size w w7 from HB6.out.trans (hb7.mono HB6.out.size)); have HM7 := Lib.hid (HM6.out.step hb7); have HR7 := Lib.hid (HR6.out.step hb7); clear hb7)
    | (go_at_call 25; refine (kept_any w7 A1 A b.length c1 c b rfl (by omega) (by omega) HM7.out HR7.out).mono ?_; rintro e w8 ⟨rfl, hb8⟩; have HB8 := Lib.hid (show Below w.heap.size w w8 from HB7.out.trans (hb8.mono HB7.out.size)); clear hb8))
  go_ret
  exact ⟨by simp, HB8.out⟩
set_option maxRecDepth 4000 in
set_option maxHeartbeats 1000000 in
theorem take_er (es : Er → Addr) (w : World) (s : ByteArray) (A : Option Addr) (c : Nat) (b : Bs) (er : Er) (hE : E18 w.heap.size w es) (hs : s.size ≤ 2000000) (hb : b.length ≤ 2000000) (hcb : b.length ≤ c) (hR : RdC (· < w.heap.size) w A (bvs b))
    (h1 : decode s.data.toList b = .error er) :
    Calls Tryd.prog 8 #[.string s, .slice A b.length c] w (OkPost w) := by
  have H1 := Lib.hid h1
  clear h1
  go_enter Tryd.func8, Tryd.ntmps8
  go_wp2_with fail
  refine (alive_any es w hE.five).mono ?_
  rintro e w0 ⟨rfl, hb0⟩
  have HE0 := Lib.hid (hE.step hb0)
  have HB0 := Lib.hid hb0
  have HR0 := Lib.hid (hR.step hb0)
  clear hb0 hE hR
  go_wp2_with fail
  refine (bytes_any w0 A b.length c b rfl (by omega) HR0.out).mono ?_
  rintro e w1 ⟨hb1, A1, c1, rfl, hc1, hcm1, hrd1⟩
  have HE1 := Lib.hid (HE0.out.step hb1)
  have HB1 := Lib.hid (show Below w.heap.size w w1 from HB0.out.trans (hb1.mono HB0.out.size))
  have HR1 := Lib.hid (HR0.out.step hb1)
  have HM1 := Lib.hid (hrd1.mono (ok' := (· < w1.heap.size)) (fun _ h => h.2))
  have hi1 : RdC (· < w1.heap.size) w1 A1 (bvs b) := by
    have := HM1.out.take b.length
    simpa [bvs, List.map_append] using this
  have HI1 := Lib.hid hi1
  clear hb1 hrd1 hi1 HE0 HB0 HR0
  have hde := decode_any es w1 s A1 b.length c1 b rfl HE1.out.five HI1.out (by omega) (by omega) (by omega)
  rw [H1.out] at hde
  have HDe := Lib.hid hde
  clear hde
  go_wp2_with fail
  refine HDe.out.mono ?_
  rintro e w2 ⟨hb2, rfl⟩
  have HE2 := Lib.hid (HE1.out.step hb2)
  have HB2 := Lib.hid (show Below w.heap.size w w2 from HB1.out.trans (hb2.mono HB1.out.size))
  have HM2 := Lib.hid (HM1.out.step hb2)
  have HI2 := Lib.hid (HI1.out.step hb2)
  have HR2 := Lib.hid (HR1.out.step hb2)
  have HSo := Lib.hid (some_any es w2 s A1 b.length c1 b rfl HE2.out.five HI2.out (by omega) (by omega) (by omega))
  clear hb2 HDe HE1 HB1 HM1 HI1 HR1
  go_wp2_with fail
  refine HSo.out.mono ?_
  rintro e w3 ⟨rfl, hb3⟩
  have HE3 := Lib.hid (HE2.out.step hb3)
  have HB3 := Lib.hid (show Below w.heap.size w w3 from HB2.out.trans (hb3.mono HB2.out.size))
  have HM3 := Lib.hid (HM2.out.step hb3)
  have HR3 := Lib.hid (HR2.out.step hb3)
  have hrd := rdecode_any w3 s A b.length c b rfl HR3.out (by omega) hcb (by omega)
  rw [H1.out] at hrd
  have HRd := Lib.hid hrd
  clear hb3 hrd HSo HE2 HB2 HM2 HI2 HR2
  go_wp2_with fail
  refine HRd.out.mono ?_
  rintro e w4 ⟨hb4, rfl⟩
  have HE4 := Lib.hid (HE3.out.step hb4)
  have HB4 := Lib.hid (show Below w.heap.size w w4 from HB3.out.trans (hb4.mono HB3.out.size))
  have HM4 := Lib.hid (HM3.out.step hb4)
  have HR4 := Lib.hid (HR3.out.step hb4)
  have HRs := Lib.hid (rsome_any w4 s A b.length c b rfl HR4.out (by omega) hcb (by omega))
  clear hb4 HRd HE3 HB3 HM3 HR3
  go_wp2_with fail
  refine HRs.out.mono ?_
  rintro e w5 ⟨rfl, hb5⟩
  have HE5 := Lib.hid (HE4.out.step hb5)
  have HB5 := Lib.hid (show Below w.heap.size w w5 from HB4.out.trans (hb5.mono HB4.out.size))
  have HM5 := Lib.hid (HM4.out.step hb5)
  have HR5 := Lib.hid (HR4.out.step hb5)
  have HSm := Lib.hid (same_any w5 none none 0 0 0 [] rfl (by simp) (RdC.nil _ _ _) (RdC.nil _ _ _))
  clear hb5 HRs HE4 HB4 HM4 HR4
  generalize (someAt s.data.toList b).1 = n1 at *
  generalize (someAt s.data.toList b).2 = n2 at *
  go_wp2_with (first
    | (go_at_call 24; refine HSm.out.mono ?_; rintro e w6 ⟨rfl, hb6⟩; have HE6 := Lib.hid (HE5.out.step hb6); have HB6 := Lib.hid (show Below w.heap.size w w6 from HB5.out.trans (hb6.mono HB5.out.size)); have HM6 := Lib.hid (HM5.out.step hb6); have HR6 := Lib.hid (HR5.out.step hb6); clear hb6)
    | (go_at_call 19; refine (num_err es w6 er HE6.out).mono ?_; rintro e w7 ⟨rfl, hb7⟩; have HB7 := Lib.hid (show Below w.heap.size w w7 from HB6.out.trans (hb7.mono HB6.out.size)); have HM7 := Lib.hid (HM6.out.step hb7); have HR7 := Lib.hid (HR6.out.step hb7); clear hb7)
    | (go_at_call 25; refine (kept_any w7 A1 A b.length c1 c b rfl (by omega) (by omega) HM7.out HR7.out).mono ?_; rintro e w8 ⟨rfl, hb8⟩; have HB8 := Lib.hid (show Below w.heap.size w w8 from HB7.out.trans (hb8.mono HB7.out.size)); clear hb8))
  go_ret
  exact ⟨by simp, HB8.out⟩
theorem take_walk (es : Er → Addr) (w : World) (s : ByteArray) (A : Option Addr) (n c : Nat) (b : Bs) (hE : E18 w.heap.size w es) (hs : s.size ≤ 2000000) (hn : n = b.length) (hb : b.length ≤ 2000000) (hcb : b.length ≤ c) (hR : RdC (· < w.heap.size) w A (bvs b)) :
    Calls Tryd.prog 8 #[.string s, .slice A n c] w (OkPost w) := by
  subst hn
  cases h1 : decode s.data.toList b with
  | ok cs => exact take_ok es w s A c b cs hE hs hb hcb hR h1
  | error er => exact take_er es w s A c b er hE hs hb hcb hR h1
end Go.Proofs.YtkencpfmbcjppaaDoor
