/- Walks of package hash: Check, Alike, Hex. -/
import Derived.Test.YtpekagkhgegefaaDoorHu
set_option linter.unusedVariables false
set_option linter.unusedSimpArgs false
set_option linter.unnecessarySimpa false
namespace Go.Proofs.YtpekagkhgegefaaDoor
open Go.RowKit

/-- What Check answers. -/
def CheckP (w : World) (b : Bs) (e : Ending) (w' : World) : Prop := e = .returned (.agg (bvs ((sha b).take 4)).toArray) ∧ Below w.heap.size w w'
set_option maxRecDepth 8000 in
set_option maxHeartbeats 2000000 in
theorem check_any (w : World) (PA : Option Addr) (pc : Nat) (vs : List Value) (ps : List Bs) (hRo : RoundAt w) (hP : RdC (· < w.heap.size) w PA vs) (hV : RowsOf (· < w.heap.size) w vs ps) (hk : ps.length ≤ 140737488355328) (hl : ps.flatten.length ≤ 35184372088832) :
    Calls Tryd.prog 44 #[.slice PA ps.length pc] w (CheckP w ps.flatten) := by
  have HRo := Lib.hid hRo
  have HP := Lib.hid hP
  have HV := Lib.hid hV
  clear hRo hP hV
  go_enter Tryd.func44, Tryd.ntmps44
  go_wp2_with fail
  generalize hZ : Obj.cells #[Value.int .u8 0, Value.int .u8 0, Value.int .u8 0, Value.int .u8 0] 87 (0, 0) = Z
  have hbz : Below w.heap.size w (w.alloc Z) := (Below.refl _ _).alloc (Nat.le_refl _) _
  have hle : w.heap.size ≤ (w.alloc Z).heap.size := hbz.size
  refine (digest_any (w.alloc Z) PA pc vs ps (HRo.out.below hbz HRo.out.lt) (HP.out.toBelow hbz hle) (HV.out.toBelow hbz hle) hk hl).mono ?_
  rintro e w2 ⟨rfl, hb2⟩
  have hsl := sha_length ps.flatten
  generalize hF : sha ps.flatten = F at *
  have hz : w2.heap[w.heap.size]? = some Z := (hb2.block _ (by simp)).trans (heap_alloc_new _ _)
  rw [← hZ] at hz
  have hb3 : Below w.heap.size w w2 := hbz.trans (hb2.mono hle)
  have hlt : w.heap.size < w2.heap.size := (Array.getElem?_eq_some_iff.1 hz).1
  have hi32 : (Tryd.prog.info? 117).map (·.size) = some ((bvs F).toArray).size := by
    rw [show ((bvs F).toArray).size = 32 by simp [hsl]]
    kernel_rfl
  have hi4 : (Tryd.prog.info? 87).map (·.size) = some ((bvs (F.take 4)).toArray).size := by
    rw [show ((bvs (F.take 4)).toArray).size = 4 by simp [hsl]]
    kernel_rfl
  have hr4 : (w2.alloc (.cells (bvs F).toArray 117 (0, 0))).rangeAt w2.heap.size 0 (bvs (F.take 4)) := fun j v hj => by
    have hjl : j < 4 ∧ (bvs F)[j]? = some v := by
      rw [bvs_take, List.getElem?_take] at hj
      split at hj
      · exact ⟨‹_›, hj⟩
      · cases hj
    rw [cell_of_row _ _ _ _ _ _ (heap_alloc_new _ _)]
    simpa using hjl.2
  have HR4 := Lib.hid hr4
  clear hr4
  have HF := Lib.hid hF
  have HSl := Lib.hid hsl
  have HI := Lib.hid hi32
  have HI4 := Lib.hid hi4
  have HZ := Lib.hid hz
  have HB3 := Lib.hid hb3
  have HZe := Lib.hid hZ
  clear hF hsl hi32 hi4 hz hb3 hb2 hbz hZ
  have hat : ∀ W, (Instr.arrayAt 87 (.slice (some ⟨w2.heap.size, 0, none⟩) 4 32)).run Tryd.prog W = .ok (.pointer (some ⟨w2.heap.size, 0, none⟩)) W := fun W => run_arrayAt W _ _ 4 _ 4 32 Tryd.underlying87 (by omega)
  have hz5 : (w2.alloc (.cells (bvs F).toArray 117 (0, 0))).heap[w.heap.size]? = _ := (heap_alloc_old _ _ hlt).trans HZ.out
  have hnew := setRow_heap _ w.heap.size _ (bvs (F.take 4)).toArray _ _ hz5
  have hbn : Below w.heap.size w ((w2.alloc (.cells (bvs F).toArray 117 (0, 0))).setRow w.heap.size (bvs (F.take 4)).toArray) := below_setRow (HB3.out.alloc (Nat.le_of_lt hlt) _) (Nat.le_refl _) _
  have HNew := Lib.hid hnew
  have HZ5 := Lib.hid hz5
  have HBn := Lib.hid hbn
  clear hnew hz5 hbn
  go_wp2_with (first
    | (with_reducible refine wpList_store_new (op := ⟨none, .store 117 _ _, _, _, _, _⟩) rfl 117 _ _ rfl _ (bvs F).toArray _ rfl rfl (by simp; exact HSl.out.symm) HI.out (by simpa using bv_one F) ?_)
    | (with_reducible refine wpList_load_mid (op := ⟨some 8, _, _, _, _, _⟩) rfl _ _ rfl w2.heap.size 0 rfl (bvs (F.take 4)) _ HR4.out Tryd.underlying87 rfl (by simpa using HI4.out) ?_)
    | (with_reducible refine wpList_store_all (op := ⟨none, .store 87 _ _, _, _, _, _⟩) rfl 87 _ _ rfl w.heap.size _ (bvs (F.take 4)).toArray _ rfl rfl HZ5.out (by simp [HSl.out]) HI4.out (by simpa using bv_one (F.take 4)) ?_))
  refine bodyPost_ret (v := .agg (bvs (F.take 4)).toArray) (results_cell_row rfl _ _ w.heap.size _ _ _ _ rfl HNew.out Tryd.underlying87 rfl HI4.out) rfl ⟨by rw [HF.out], HBn.out⟩
end Go.Proofs.YtpekagkhgegefaaDoor
