/- Statements of layer 5: what they share: errors compared, alive. -/
import Derived.Test.YtipgimmgjdgdeaaDoorVc
import Derived.LaidEql
set_option linter.unusedVariables false
set_option linter.unusedSimpArgs false
set_option linter.unnecessarySimpa false
namespace Go.Proofs.YtipgimmgjdgdeaaDoor
open Go.RowKit

theorem infoErr : (Tryd.prog.info? 160).map (fun i => i.comparable) = some true := by kernel_rfl
theorem infoErrS : (Tryd.prog.info? 176).map (fun i => i.size) = some 1 := by kernel_rfl
theorem run_err_same (a : Addr) (w : World) : (binOp .eql 35 (.iface 160 (.pointer (some a))) (.iface 160 (.pointer (some a)))).run Tryd.prog w = .ok (.bool true) w := by
  obtain ⟨i, hi, hc⟩ := Option.map_eq_some_iff.1 infoErr
  obtain ⟨j, hj, hs⟩ := Option.map_eq_some_iff.1 infoErrS
  exact run_eql_iface_ptr_same w a Tryd.underlying35 Tryd.underlying160 hi hc hj
def ackF : Fr := { Fr.of 6 with got := 7 }
def dataF : Fr := { Fr.of 9 with seq := 1, stream := 1 }
theorem ack_ok : checkF ackF = true := by decide
theorem data_no : checkF dataF = false := by decide
theorem ack_put : putF ackF = [0, 9, 6, 0, 0, 0, 0, 0, 0, 0, 7] ++ (sha (frontF ackF)).take 4 := by
  have h : frontF ackF = [0, 9, 6, 0, 0, 0, 0, 0, 0, 0, 7] := by decide
  unfold putF
  rw [h]
theorem ack_len : (putF ackF).length = 15 := by
  rw [ack_put, List.length_append, sha4_len]
  rfl
theorem ack_take : (putF ackF).take 11 = [0, 9, 6, 0, 0, 0, 0, 0, 0, 0, 7] := by
  rw [ack_put]
  rfl
theorem lens_ack : ackF.lens := ⟨by decide, by decide, by decide⟩
theorem lens_data : dataF.lens := ⟨by decide, by decide, by decide⟩
theorem PutP.ok {es : Er → Addr} {f : Fr} {w : World} {e : Ending} {w' : World} (h : PutP es f w e w') (hc : checkF f = true) : Below w.heap.size w w' ∧ ∃ A c, e = .returned (.tuple #[.slice A (putF f).length c, .nilIface]) ∧ (putF f).length ≤ c ∧ w'.ownsRow w.heap.size 5 1 (.slice A (putF f).length c) (putF f).length (bvs (putF f)) := by
  obtain ⟨hb, hm⟩ := h
  rw [hc] at hm
  obtain ⟨v, rfl, ho⟩ := hm
  obtain ⟨A, c, rfl, h1, _⟩ := own_slice ho
  exact ⟨hb, A, c, rfl, h1, ho⟩
theorem PutP.er {es : Er → Addr} {f : Fr} {w : World} {e : Ending} {w' : World} (h : PutP es f w e w') (hc : checkF f = false) : e = .returned (.tuple #[.slice none 0 0, errV (es .frame)]) ∧ Below w.heap.size w w' := by
  obtain ⟨hb, hm⟩ := h
  rw [hc] at hm
  exact ⟨hm, hb⟩
end Go.Proofs.YtipgimmgjdgdeaaDoor
