/- Bytes, Kept of package jackfieldnum, in any seat that has package hash. -/
import Derived.Test.YtpekagkhgegefaaDoorHu
set_option linter.unusedVariables false
set_option linter.unusedSimpArgs false
set_option linter.unnecessarySimpa false
namespace Go.Proofs.YtpekagkhgegefaaDoor
open Go.RowKit

def marks : Bs := [201, 202, 203, 204, 205, 206]
def BytesPost (w : World) (b : Bs) (e : Ending) (w' : World) : Prop :=
  Below w.heap.size w w' ∧ ∃ A c, e = .returned (.slice A b.length c) ∧ b.length + 6 ≤ c ∧ c ≤ maxLen ∧ RdC (fun k => w.heap.size ≤ k ∧ k < w'.heap.size) w' A (bvs (b ++ marks))
set_option maxHeartbeats 400000 in
theorem bytes_any (w : World) (A : Option Addr) (n c : Nat) (b : Bs) (hn : n = b.length) (hb : b.length ≤ 4000000) (hR : RdC (· < w.heap.size) w A (bvs b)) :
    Calls Tryd.prog 23 #[.slice A n c] w (BytesPost w b) := by
  subst hn
  obtain ⟨i0, hi, hz0, hz1, hz2⟩ := info_parts infoU8h
  have j0 : IntKind.i64.wrap ((b.length : Int) + 6) = ((b.length + 6 : Nat) : Int) := IntWalk.i64_in _ (by omega)
  go_enter Tryd.func23, Tryd.ntmps23
  go_wp2_with (first
    | (at_make; refine wpList_make_own _ rfl _ _ 23 rfl w.heap.size 5 i0 (.int .u8 0) 1 Tryd.underlying23 hi hz0 hz1 _ _ _ (b.length + 6) rfl rfl (by simp) (by rw [hz2]; omega) (by unfold maxLen; omega) (Nat.le_refl _) ?_; intro w1 hown hg; have HO1 := Lib.hid hown; have HB1 := Lib.hid (show Below w.heap.size w w1 from ⟨hg.os, hg.tape, hg.output, hg.size, fun k hk => hg.block k hk (by simp)⟩); clear hown hg)
    | (at_builtin; refine wpList_appS (ok := fun k => k < w.heap.size) _ w.heap.size (.tmp 7) (.tmp 8) 23 5 i0 (.int .u8 0) 1 1 rfl (by rfl) Tryd.underlying23 hi hz0 hz1 hz2 rfl (by omega) (by omega) _ 0 [] (by rfl) HO1.out A b.length c (bvs b) (by rfl) (by simp)
        (hR.below HB1.out) (bvs_one b) (by omega) HB1.out.size ?_; intro v2 w2 hown2 hg2; have HB2 := Lib.hid (show Below w.heap.size w w2 from hg2.below HB1.out HB1.out.size (own_base HO1.out)); have HO2 := Lib.hid hown2; clear hg2 hown2)
    | (at_builtin; refine wpList_appS _ w.heap.size (.tmp 9) (.tmp 10) 23 5 i0 (.int .u8 0) 1 1 rfl (by rfl) Tryd.underlying23 hi hz0 hz1 hz2 rfl (by omega) (by omega) _ (0 + b.length) ([] ++ bvs b) (by rfl) (HO2.out.alloc _) (some ⟨w2.heap.size, 0, none⟩) 6 6 (bvs marks) (by rfl) (by rfl)
        (RdC.new w2 #[.int .u8 201, .int .u8 202, .int .u8 203, .int .u8 204, .int .u8 205, .int .u8 206] 5) (bvs_one marks) (by omega) (by have := HB2.out.size; simp; omega) ?_; intro v3 w3 hown3 hg3
       have hbel : Below w.heap.size w w3 := hg3.below (HB2.out.alloc HB2.out.size _) (by have := HB2.out.size; simp; omega) (own_base HO2.out)
       have hown4 : w3.ownsRow w.heap.size 5 1 v3 (b.length + 6) (bvs (b ++ marks)) := by
         rw [bvs_append]
         simpa using hown3
       obtain ⟨A3, c3, rfl, hc3, _⟩ := own_slice hown4
       have k1 : (b.length : Int) ≤ (c3 : Int) := by omega
       have k0 : (0 : Int) ≤ (b.length : Int) := by omega
       have hcm : c3 ≤ maxLen := by
         rcases hown4.2 with ⟨h, h1⟩ | ⟨g, cap, cur, h, _, _, _, h2, _⟩
         · omega
         · cases h; exact h2
       have HRD := Lib.hid (RdC.of_own hown4)
       have HB := Lib.hid hbel
       have HCM := Lib.hid hcm
       clear hg3 hown3 hbel hown4 hcm))
  go_ret
  exact ⟨HB.out, _, _, rfl, hc3, HCM.out, HRD.out⟩
set_option maxHeartbeats 800000 in
theorem kept_any (w : World) (A A2 : Option Addr) (n c c2 : Nat) (b : Bs) (hn : n = b.length) (hb : b.length ≤ 4000000) (hc : b.length + 6 ≤ c) (hR : RdC (· < w.heap.size) w A (bvs (b ++ marks))) (hR2 : RdC (· < w.heap.size) w A2 (bvs b)) :
    Calls Tryd.prog 25 #[.slice A n c, .slice A2 n c2] w (OkPost w) := by
  subst hn
  have htk : RdC (· < w.heap.size) w A (bvs b) := by
    have := hR.take b.length
    simpa [bvs, List.map_append] using this
  have hcv1 : ∀ k, (convert 23 9 (.slice A b.length c)).run Tryd.prog (w.drewN k) = .ok (.string ⟨b.toArray⟩) (w.drewN k) := fun k =>
    run_str_of Tryd.underlying23 Tryd.underlying5 Tryd.underlying9 rfl (htk.move (w' := w.drewN k) (fun _ _ => rfl))
  have hcv2 : ∀ k, (convert 23 9 (.slice A2 b.length c2)).run Tryd.prog (w.drewN k) = .ok (.string ⟨b.toArray⟩) (w.drewN k) := fun k =>
    run_str_of Tryd.underlying23 Tryd.underlying5 Tryd.underlying9 rfl (hR2.move (w' := w.drewN k) (fun _ _ => rfl))
  have j0 : IntKind.i64.wrap ((b.length : Int) + 6) = (b.length : Int) + 6 := IntWalk.i64_in _ (by omega)
  have j1 : ¬ ((c : Int) < (b.length : Int) + 6) := by omega
  have j2 : (b.length : Int) ≤ (c : Int) := by omega
  have HR := Lib.hid hR
  clear hR htk hR2
  go_enter Tryd.func25, Tryd.ntmps25
  go_wp2_with fail
  go_quiet (fail)
  go_wp2_with fail
  have HR2 := Lib.hid (HR.out.move (w' := w.drewN nq) (fun _ _ => rfl))
  have HB := Lib.hid (below_drewN (Below.refl w.heap.size w) nq)
  generalize w.drewN nq = w1 at *
  go_loopw [6] (fun i wr => ∃ k : Nat, k ≤ 6 ∧ i = .int .i64 k ∧ wr = w1) (fun i _ => 6 - (intOf i).toNat)
  case atStart => exact ⟨0, Nat.zero_le _, rfl, rfl⟩
  case round =>
    obtain ⟨k, hk1, rfl, rfl⟩ := hrel
    by_cases hlt : k < 6
    · have hlen : (b ++ marks).length = b.length + 6 := by simp [marks]
      obtain ⟨ad, rfl, hadb, g⟩ := bytes_at HR2.out (b.length + k) (by omega)
      have hx : (((b ++ marks)[b.length + k]'(by omega)).toNat : Int) = 201 + (k : Int) := by
        rw [List.getElem_append_right (by omega)]
        have : k = 0 ∨ k = 1 ∨ k = 2 ∨ k = 3 ∨ k = 4 ∨ k = 5 := by omega
        rcases this with rfl | rfl | rfl | rfl | rfl | rfl <;> simp [marks]
      rw [hx] at g
      have k0 : (0 : Int) ≤ (k : Int) := by omega
      have k1 : (k : Int) < 6 := by omega
      have k2 : IntKind.i64.wrap ((k : Int) + 1) = (k : Int) + 1 := IntWalk.i64_in _ (by omega)
      have k3 : IntKind.i64.wrap ((b.length : Int) + (k : Int)) = (b.length : Int) + (k : Int) := IntWalk.i64_in _ (by omega)
      have k4 : (0 : Int) ≤ (b.length : Int) + (k : Int) := by omega
      have k5 : (b.length : Int) + (k : Int) < (c : Int) := by omega
      have k6 : ((b.length : Int) + (k : Int)).toNat = b.length + k := by omega
      have k7 : IntKind.i64.wrap (201 + (k : Int)) = 201 + (k : Int) := IntWalk.i64_in _ (by omega)
      have k8 : IntKind.u8.wrap (201 + (k : Int)) = 201 + (k : Int) := IntWalk.u8_in _ (by omega)
      clear hx hlen
      go_wp2_with fail
      go_roundw
      case rel => exact ⟨k + 1, by omega, by go_num, trivial⟩
      case measure => simp [intOf]; omega
    · go_wp2
      go_ret
      exact ⟨rfl, HB.out⟩

end Go.Proofs.YtpekagkhgegefaaDoor
