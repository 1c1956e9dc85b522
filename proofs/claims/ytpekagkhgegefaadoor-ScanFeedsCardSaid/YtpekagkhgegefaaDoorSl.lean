/- Walk of the statement ScanSplits. -/
import Derived.Test.YtpekagkhgegefaaDoorSk
import Derived.Test.YtpekagkhgegefaaDoorSi
import Derived.Test.YtpekagkhgegefaaDoorSj
import Derived.Test.YtpekagkhgegefaaDoorNm
import Derived.Test.YtpekagkhgegefaaDoorMi
set_option linter.unusedVariables false
set_option linter.unusedSimpArgs false
set_option linter.unnecessarySimpa false
namespace Go.Proofs.YtpekagkhgegefaaDoor
open Go.RowKit
attribute [local go_sem] run_store_flt

def erOpt (b : Bool) : Option Er := if b = true then some .frame else none
theorem erOpt_v (es : Er → Addr) (b : Bool) : (if b = true then errV (es .frame) else .nilIface) = codeV es (erOpt b) := by cases b <;> rfl
theorem erOpt_c (b : Bool) : (if b = true then (7 : Int) else 0) = ((code (erOpt b) : Nat) : Int) := by cases b <;> rfl
theorem SplitP.as {es : Er → Addr} {w w' : World} {b : Bs} {e : Ending} {fs : List Fr} {n : Nat} {er : Bool} (h : SplitP es w b e w') (hs : scanB b = (fs, n, er)) : Below w.heap.size w w' ∧ ∃ A c, e = .returned (.tuple #[.slice A fs.length c, .int .i64 (n : Nat), codeV es (erOpt er)]) ∧ fs.length ≤ c ∧ RdFs w' A fs := by
  obtain ⟨hb, A, c, he, hc, hr⟩ := h
  rw [hs] at he hc hr
  rw [← erOpt_v]
  exact ⟨hb, A, c, he, hc, hr⟩
theorem RSplitP.as {w w' : World} {b : Bs} {e : Ending} {fs : List Fr} {n : Nat} {er : Bool} (h : RSplitP w b e w') (hs : scanB b = (fs, n, er)) : Below w.heap.size w w' ∧ ∃ A c cs, e = .returned (.tuple #[.slice A fs.length c, .int .i64 (n : Nat), .int .i64 ((code (erOpt er) : Nat) : Int)]) ∧ w'.ownsRow w.heap.size 25 10 (.slice A fs.length c) fs.length cs ∧ FrsV (fun k => w.heap.size ≤ k ∧ k < w'.heap.size) w' fs cs := by
  obtain ⟨hb, A, c, cs, he, ho, hf⟩ := h
  rw [hs] at he ho hf
  rw [← erOpt_c]
  exact ⟨hb, A, c, cs, he, ho, hf⟩
set_option maxRecDepth 8000 in
set_option maxHeartbeats 6400000 in
theorem splits_walk (es : Er → Addr) (w : World) (A : Option Addr) (c : Nat) (b : Bs) (hE : GEnv w es) (h18 : E18 w.heap.size w es) (hR : RdC (· < w.heap.size) w A (bvs b)) (hc : b.length ≤ c) (hb : b.length ≤ 9223372036854775807) :
    Calls Tryd.prog 12 #[.slice A b.length c] w (OkPost w) := by
  have HAl := Lib.hid (alive06 es w hE)
  have HE := Lib.hid hE
  have H18 := Lib.hid h18
  have HR := Lib.hid hR
  clear hE h18 hR
  go_enter Tryd.func12, Tryd.ntmps12
  go_wp2_with fail
  refine HAl.out.mono ?_
  rintro e w1 ⟨rfl, hb1⟩
  have HB1 := Lib.hid hb1
  by_cases hlong : 20000 < b.length
  · have k1 : (20000 : Int) < (b.length : Int) := by omega
    clear hlong hb1
    go_wp2_with fail
    go_ret
    exact ⟨rfl, HB1.out⟩
  · have k1 : ¬ (20000 : Int) < (b.length : Int) := by omega
    have HBy := Lib.hid (bytes_any w1 A b.length c b rfl (by omega) (HR.out.step hb1))
    clear hlong hb1
    go_wp2_with fail
    refine HBy.out.mono ?_
    rintro e w2 ⟨hb2, A2, cin, rfl, hcin, hcm, hr2⟩
    have HB2 := Lib.hid (below_on HB1.out hb2)
    have hr2b : RdC (· < w2.heap.size) w2 A2 (bvs b) := by
      have h := (hr2.mono (ok' := (· < w2.heap.size)) (fun k hk => hk.2)).take b.length
      rw [bvs_append, ← bvs_length b, List.take_left] at h
      exact h
    obtain ⟨⟨fs, n, er⟩, hsb⟩ : ∃ r, r = scanB b := ⟨_, rfl⟩
    have HSb := Lib.hid hsb.symm
    have htk := (scan_took hsb.symm).1.le
    have hfl : fs.length ≤ 20000 := by omega
    obtain ⟨oe, hoe⟩ : ∃ oe, oe = erOpt er := ⟨_, rfl⟩
    obtain ⟨ev, hev⟩ : ∃ ev, ev = codeV es oe := ⟨_, rfl⟩
    have hsp := (split_any es w2 A2 cin b (HE.out.step HB2.out) hr2b (by omega)).mono fun e w' h => h.as hsb.symm
    rw [← hoe, ← hev] at hsp
    have HSp := Lib.hid hsp
    have HOe := Lib.hid hoe
    have HEv := Lib.hid hev
    clear hsp hoe hev hsb htk
    clear hb2 hr2 hr2b HBy
    go_wp2_with fail
    refine HSp.out.mono ?_
    rintro e w3 ⟨hb3, AL, cL, rfl, hcL, hrl⟩
    have HB3 := Lib.hid (below_on HB2.out hb3)
    have HRl := Lib.hid hrl
    have HNw := Lib.hid (new_any w3)
    clear hb3 hrl HSp
    go_wp2_with fail
    refine HNw.out.mono ?_
    rintro e w4 ⟨H, va, vb, rfl, hT, hb4⟩
    have HB4 := Lib.hid (below_on HB3.out hb4)
    have HRl4 := Lib.hid (HRl.out.step hb4)
    have hrs := (rsplit_any w4 H w3.heap.size va vb A c b hT (HR.out.step HB4.out) hc (by omega)).mono fun e w' h => h.as HSb.out
    rw [← HOe.out] at hrs
    have HRs := Lib.hid hrs
    clear hb4 hT HNw hrs
    go_wp2_with fail
    refine HRs.out.mono ?_
    rintro e w5 ⟨hb5, AM, cM, cs, rfl, hom, hfm⟩
    have HB5 := Lib.hid (below_on HB4.out hb5)
    have hrm : RdFs w5 AM fs := ⟨cs, (RdC.of_own hom).mono (fun k hk => hk.2), hfm.mono (fun k hk => hk.2)⟩
    have hsl := samelist_any fs fs AL AM cL cM w5 (HRl4.out.step hb5) hrm (by omega)
    rw [decide_eq_true rfl] at hsl
    have HSl := Lib.hid hsl
    clear hb5 hom hfm hrm hsl HRs
    go_wp2_with fail
    refine HSl.out.mono ?_
    rintro e w6 ⟨rfl, hb6⟩
    have HB6 := Lib.hid (below_on HB5.out hb6)
    have hnm := num_any es w6 oe (H18.out.step HB6.out)
    rw [← HEv.out] at hnm
    have HNm := Lib.hid hnm
    clear hb6 hnm HSl
    go_wp2_with fail
    refine HNm.out.mono ?_
    rintro e w7 ⟨rfl, hb7⟩
    have HB7 := Lib.hid (below_on HB6.out hb7)
    clear hb7
    go_wp2_with fail
    go_ret
    exact ⟨rfl, HB7.out⟩
end Go.Proofs.YtpekagkhgegefaaDoor
