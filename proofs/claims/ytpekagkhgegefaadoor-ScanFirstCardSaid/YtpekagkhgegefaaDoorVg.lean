/- Statements of layer 5: what they share: errors compared, alive. -/
import Derived.Test.YtpekagkhgegefaaDoorVc
import Derived.LaidEql
set_option linter.unusedVariables false
set_option linter.unusedSimpArgs false
set_option linter.unnecessarySimpa false
namespace Go.Proofs.YtpekagkhgegefaaDoor
open Go.RowKit

theorem infoErr : (Tryd.prog.info? 147).map (fun i => i.comparable) = some true := by kernel_rfl
theorem infoErrS : (Tryd.prog.info? 163).map (fun i => i.size) = some 1 := by kernel_rfl
theorem run_err_same (a : Addr) (w : World) : (binOp .eql 30 (.iface 147 (.pointer (some a))) (.iface 147 (.pointer (some a)))).run Tryd.prog w = .ok (.bool true) w := by
  obtain ⟨i, hi, hc⟩ := Option.map_eq_some_iff.1 infoErr
  obtain ⟨j, hj, hs⟩ := Option.map_eq_some_iff.1 infoErrS
  exact run_eql_iface_ptr_same w a Tryd.underlying30 Tryd.underlying147 hi hc hj
def ackF : Fr := { Fr.of 6 with got := 7 }
def dataF : Fr := { Fr.of 9 with seq := 1, stream := 1 }
theorem ack_ok : checkF ackF = true := by decide
theorem data_no : checkF dataF = false := by decide
theorem ack_put : putF ackF = [0, 9, 6, 0, 0, 0, 0, 0, 0, 0, 7] ++ (sha (frontF ackF)).take 4 := by
  have h : frontF ackF = [0, 9, 6, 0, 0, 0, 0, 0, 0, 0, 7] := by decide
  unfold putF
  rw [h]
theorem ack_len : (putF ackF).length = 15 := by
  rw [ack_put, List.length_append, sha4_len]
  rfl
theorem ack_take : (putF ackF).take 11 = [0, 9, 6, 0, 0, 0, 0, 0, 0, 0, 7] := by
  rw [ack_put]
  rfl
theorem lens_ack : ackF.lens := ⟨by decide, by decide, by decide⟩
theorem lens_data : dataF.lens := ⟨by decide, by decide, by decide⟩
theorem PutP.ok {es : Er → Addr} {f : Fr} {w : World} {e : Ending} {w' : World} (h : PutP es f w e w') (hc : checkF f = true) : Below w.heap.size w w' ∧ ∃ A c, e = .returned (.tuple #[.slice A (putF f).length c, .nilIface]) ∧ (putF f).length ≤ c ∧ w'.ownsRow w.heap.size 5 1 (.slice A (putF f).length c) (putF f).length (bvs (putF f)) := by
  obtain ⟨hb, hm⟩ := h
  rw [hc] at hm
  obtain ⟨v, rfl, ho⟩ := hm
  obtain ⟨A, c, rfl, h1, _⟩ := own_slice ho
  exact ⟨hb, A, c, rfl, h1, ho⟩
theorem PutP.er {es : Er → Addr} {f : Fr} {w : World} {e : Ending} {w' : World} (h : PutP es f w e w') (hc : checkF f = false) : e = .returned (.tuple #[.slice none 0 0, errV (es .frame)]) ∧ Below w.heap.size w w' := by
  obtain ⟨hb, hm⟩ := h
  rw [hc] at hm
  exact ⟨hm, hb⟩
set_option maxRecDepth 8000 in
set_option maxHeartbeats 1600000 in
theorem alive05 (es : Er → Addr) (w : World) (hE : FEnv w es) : Calls Tryd.prog 14 #[] w (OkPost w) := by
  have hp1 : Calls Tryd.prog 17 #[frV ackF none 0] w _ := (putF_any es ackF none 0 w hE lens_ack (RdC.nil _ _ _)).mono fun e w' h => h.ok ack_ok
  have hlen := ack_len
  have htk := ack_take
  generalize putF ackF = P at *
  rw [hlen] at hp1
  have HP1 := Lib.hid hp1
  have HE := Lib.hid hE
  have HTk := Lib.hid htk
  have HLen := Lib.hid hlen
  have hee := run_err_same
  clear hp1 hE htk hlen
  go_enter Tryd.func14, Tryd.ntmps14
  go_wp2_with fail
  refine HP1.out.mono ?_
  rintro e w1 ⟨hb1, A, c, rfl, hc, ho⟩
  have HB1 := Lib.hid hb1
  have HO1 := Lib.hid ho
  have hp2 : Calls Tryd.prog 17 #[frV dataF none 0] w1 _ := (putF_any es dataF none 0 w1 (HE.out.step hb1) lens_data (RdC.nil _ _ _)).mono fun e w' h => h.er data_no
  have HP2 := Lib.hid hp2
  clear hb1 ho hp2 HP1
  go_wp2_with fail
  refine HP2.out.mono ?_
  rintro e w2 ⟨rfl, hb2⟩
  have HB2 := Lib.hid (below_on HB1.out hb2)
  have hcv : (convert 23 9 (.slice A 11 c)).run Tryd.prog w2 = .ok (.string ⟨#[0, 9, 6, 0, 0, 0, 0, 0, 0, 0, 7]⟩) w2 := by
    have h := ((RdC.of_own HO1.out).move (w' := w2) (fun b hb => hb2.block b hb.2)).take 11
    rw [← bvs_take, HTk.out] at h
    exact run_str_of Tryd.underlying23 Tryd.underlying5 Tryd.underlying9 rfl h
  have he := ((HE.out.step HB2.out).frame).at
  unfold errV at he
  clear hb2 HP2
  unfold errV
  go_wp2_with fail
  go_ret
  exact ⟨rfl, HB2.out⟩
end Go.Proofs.YtpekagkhgegefaaDoor
