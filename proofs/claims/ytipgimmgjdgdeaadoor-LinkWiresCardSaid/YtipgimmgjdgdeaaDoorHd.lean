/- Walks of package hash: Digest, Check, Alike, Hex. -/
import Derived.Test.YtipgimmgjdgdeaaDoorHe
set_option linter.unusedVariables false
set_option linter.unusedSimpArgs false
set_option linter.unnecessarySimpa false
namespace Go.Proofs.YtipgimmgjdgdeaaDoor
open Go.RowKit

/-- The values vs are slices of bytes that read as ps. -/
def RowsOf (ok : Nat → Prop) (w : World) (vs : List Value) (ps : List Bs) : Prop :=
  vs.length = ps.length ∧ ∀ i (h : i < ps.length), ∃ A c, vs[i]? = some (.slice A ps[i].length c) ∧ RdC ok w A (bvs ps[i]) ∧ ps[i].length ≤ c
theorem RowsOf.below {B : Nat} {w w' : World} {vs : List Value} {ps : List Bs} (h : RowsOf (· < B) w vs ps) (hb : Below B w w') : RowsOf (· < B) w' vs ps :=
  ⟨h.1, fun i hi => by
    obtain ⟨A, c, h1, h2, h3⟩ := h.2 i hi
    exact ⟨A, c, h1, h2.below hb, h3⟩⟩
theorem RowsOf.mono {ok ok' : Nat → Prop} {w : World} {vs : List Value} {ps : List Bs} (h : RowsOf ok w vs ps) (hm : ∀ b, ok b → ok' b) : RowsOf ok' w vs ps :=
  ⟨h.1, fun i hi => by
    obtain ⟨A, c, h1, h2, h3⟩ := h.2 i hi
    exact ⟨A, c, h1, h2.mono hm, h3⟩⟩
theorem RowsOf.nil (ok : Nat → Prop) (w : World) : RowsOf ok w [] [] := ⟨rfl, fun i h => by simp at h⟩
theorem RowsOf.cons {ok : Nat → Prop} {w : World} {vs : List Value} {ps : List Bs} {A : Option Addr} {c : Nat} {p : Bs} (h : RowsOf ok w vs ps) (hA : RdC ok w A (bvs p)) (hc : p.length ≤ c) : RowsOf ok w (.slice A p.length c :: vs) (p :: ps) :=
  ⟨by simp [h.1], fun i hi => by
    cases i with
    | zero => exact ⟨A, c, rfl, hA, hc⟩
    | succ i => exact h.2 i (by simpa using hi)⟩
theorem RowsOf.append {ok : Nat → Prop} {w : World} {vs us : List Value} {ps qs : List Bs} (h : RowsOf ok w vs ps) (k : RowsOf ok w us qs) : RowsOf ok w (vs ++ us) (ps ++ qs) :=
  ⟨by simp [h.1, k.1], fun i hi => by
    rcases Nat.lt_or_ge i ps.length with hl | hl
    · obtain ⟨A, c, h1, h2, h3⟩ := h.2 i hl
      rw [List.getElem_append_left hl, List.getElem?_append_left (by rw [h.1]; exact hl)]
      exact ⟨A, c, h1, h2, h3⟩
    · have hi' : i - ps.length < qs.length := by rw [List.length_append] at hi; omega
      obtain ⟨A, c, h1, h2, h3⟩ := k.2 (i - ps.length) hi'
      rw [List.getElem_append_right hl, List.getElem?_append_right (by rw [h.1]; exact hl), h.1]
      exact ⟨A, c, h1, h2, h3⟩⟩
/-- What Digest answers. -/
def DigestP (w : World) (b : Bs) (e : Ending) (w' : World) : Prop := e = .returned (.agg (bvs (sha b)).toArray) ∧ Below w.heap.size w w'
theorem flatten_take_succ (ps : List Bs) (i : Nat) (h : i < ps.length) : (ps.take (i + 1)).flatten = (ps.take i).flatten ++ ps[i] := by
  rw [List.take_succ_eq_append_getElem h, List.flatten_append, List.flatten_cons, List.flatten_nil, List.append_nil]
theorem flatten_take_le (ps : List Bs) (i : Nat) : (ps.take i).flatten.length ≤ ps.flatten.length := by
  have : ps.flatten = (ps.take i).flatten ++ (ps.drop i).flatten := by rw [← List.flatten_append, List.take_append_drop]
  rw [this, List.length_append]; omega
theorem sha_length (b : Bs) : (sha b).length = 32 := by rw [sha_whole, flat_length, V8.list_length]
set_option maxRecDepth 8000 in
set_option maxHeartbeats 2000000 in
theorem digest_any (w : World) (PA : Option Addr) (pc : Nat) (vs : List Value) (ps : List Bs) (hRo : RoundAt w) (hP : RdC (· < w.heap.size) w PA vs) (hV : RowsOf (· < w.heap.size) w vs ps) (hk : ps.length ≤ 140737488355328) (hl : ps.flatten.length ≤ 35184372088832) :
    Calls Tryd.prog 80 #[.slice PA ps.length pc] w (DigestP w ps.flatten) := by
  have HRo := Lib.hid hRo
  have HP := Lib.hid hP
  have HV := Lib.hid hV
  clear hRo hP hV
  go_enter Tryd.func80, Tryd.ntmps80
  go_wp2_with fail
  generalize hZ : Obj.cells #[Value.int .u8 0, Value.int .u8 0, Value.int .u8 0, Value.int .u8 0, Value.int .u8 0, Value.int .u8 0, Value.int .u8 0, Value.int .u8 0, Value.int .u8 0, Value.int .u8 0, Value.int .u8 0, Value.int .u8 0, Value.int .u8 0, Value.int .u8 0, Value.int .u8 0, Value.int .u8 0, Value.int .u8 0, Value.int .u8 0, Value.int .u8 0, Value.int .u8 0, Value.int .u8 0, Value.int .u8 0, Value.int .u8 0, Value.int .u8 0, Value.int .u8 0, Value.int .u8 0, Value.int .u8 0, Value.int .u8 0, Value.int .u8 0, Value.int .u8 0, Value.int .u8 0, Value.int .u8 0] 137 (0, 0) = Z
  have HZ := Lib.hid hZ
  clear hZ
  refine (begin_any _).mono ?_
  rintro e w1 ⟨rfl, rfl⟩
  have hbz : Below w.heap.size w (w.alloc Z) := (Below.refl _ _).alloc (Nat.le_refl _) _
  have hs1 := begin_is (w.alloc Z) (w.alloc Z).heap.size (Nat.le_refl _)
  have hb1 : Below (w.alloc Z).heap.size (w.alloc Z) ((w.alloc Z).alloc stateObj) := (Below.refl _ _).alloc (Nat.le_refl _) _
  have hr1 : RoundAt (w.alloc Z) := HRo.out.below hbz HRo.out.lt
  have hwz : (w.alloc Z).heap[w.heap.size]? = some Z := heap_alloc_new _ _
  have hws : (w.alloc Z).heap.size = w.heap.size + 1 := by simp
  generalize hW : w.alloc Z = W at *
  have HS1 := Lib.hid hs1
  have HB1 := Lib.hid hb1
  have HR1 := Lib.hid hr1
  have HBz := Lib.hid hbz
  have HWz := Lib.hid hwz
  have HWs := Lib.hid hws
  have HW := Lib.hid hW
  clear hs1 hb1 hr1 hbz hwz hws hW
  go_wp2_with fail
  go_loopw [9] (fun i wq => ∃ t : Nat, t ≤ ps.length ∧ i = .int .i64 t ∧ StIs wq W.heap.size noX W.heap.size ((ps.take t).flatten) ∧ Below W.heap.size W wq) (fun i _ => ps.length - (intOf i).toNat)
  case atStart => exact ⟨0, Nat.zero_le _, rfl, HS1.out, HB1.out⟩
  case round =>
    obtain ⟨t, ht, rfl, hst, hbel⟩ := hrel
    have hbw : Below w.heap.size w wr := HBz.out.trans (hbel.mono (Nat.le_of_lt (by have := HWs.out; omega)))
    by_cases hlt : t < ps.length
    · obtain ⟨A, c, hv1, hv2, hv3⟩ := HV.out.2 t hlt
      obtain ⟨ad, rfl, hok, hc⟩ := HP.out (by intro e; rw [e] at hv1; simp at hv1)
      have c1 : wr.cell? (ad.add t) = some (.slice A ps[t].length c) := (World.cell?_of_block (by rw [add_block]; exact hbw.block _ hok)).trans (hc t _ hv1)
      have hsn := flatten_take_succ ps t hlt
      have hle := flatten_take_le ps (t + 1)
      rw [hsn, List.length_append] at hle
      generalize hx : ps[t] = x at *
      have j0 : (0 : Int) ≤ (t : Int) := by omega
      have j1 : (t : Int) < (ps.length : Int) := by omega
      have HSt := Lib.hid hst
      have HBel := Lib.hid hbel
      have HBw := Lib.hid hbw
      have HSn := Lib.hid hsn
      have HX := Lib.hid hv2
      have hwr : W.heap.size ≤ wr.heap.size := hbel.size
      clear hst hbel hbw hsn hv1 hv2 hc hx
      go_wp2_with fail
      refine (take_any wr W.heap.size noX W.heap.size _ x (· < w.heap.size) A c hwr HSt.out (HRo.out.below HBw.out HRo.out.lt) (by have := HWs.out; have := HRo.out.lt; omega) (HX.out.below HBw.out) (fun k hk => by have := HWs.out; omega) (by omega)).mono ?_
      rintro e w2 ⟨rfl, hs2, hb2, _⟩
      have HS2 := Lib.hid hs2
      have HB2 := Lib.hid hb2
      clear hs2 hb2
      go_wp2_with fail
      exact ⟨⟨t + 1, by omega, by go_num, by rw [HSn.out]; exact HS2.out, HBel.out.trans HB2.out⟩, by simp [intOf]; omega⟩
    · obtain rfl : t = ps.length := by omega
      rw [List.take_length] at hst
      have HSt := Lib.hid hst
      have HBel := Lib.hid hbel
      have HBw := Lib.hid hbw
      have hwr : W.heap.size ≤ wr.heap.size := hbel.size
      clear hst hbel hbw
      go_wp2_with fail
      refine (end_any wr W.heap.size noX W.heap.size _ hwr HSt.out (HRo.out.below HBw.out HRo.out.lt) (by have := HWs.out; have := HRo.out.lt; omega) hl).mono ?_
      rintro e w2 ⟨rfl, hb2⟩
      have hsl := sha_length ps.flatten
      generalize hF : sha ps.flatten = F at *
      have hb3 := HBel.out.trans hb2
      have hz : w2.heap[w.heap.size]? = some Z := (hb3.block _ (by have := HWs.out; omega)).trans HWz.out
      rw [← HZ.out] at hz
      have hi32 : (Tryd.prog.info? 137).map (·.size) = some ((bvs F).toArray).size := by
        rw [show ((bvs F).toArray).size = 32 by simp [hsl]]
        kernel_rfl
      have hnew := setRow_heap w2 w.heap.size _ (bvs F).toArray _ _ hz
      have hbn : Below w.heap.size w (w2.setRow w.heap.size (bvs F).toArray) := below_setRow (HBz.out.trans (hb3.mono (Nat.le_of_lt (by have := HWs.out; omega)))) (Nat.le_refl _) _
      have HF := Lib.hid hF
      have HSl := Lib.hid hsl
      have HI := Lib.hid hi32
      have HZ7 := Lib.hid hz
      have HNew := Lib.hid hnew
      have HBn := Lib.hid hbn
      clear hF hsl hi32 hz hnew hbn hb2 hb3
      go_wp2_with (with_reducible refine wpList_store_all (op := ⟨none, .store 137 _ _, _, _, _, _⟩) rfl 137 _ _ rfl w.heap.size _ (bvs F).toArray _ rfl rfl HZ7.out (by simp; exact HSl.out.symm) HI.out (by simpa using bv_one F) ?_)
      refine bodyPost_ret (v := .agg (bvs F).toArray) (results_cell_row rfl _ _ w.heap.size _ _ _ _ rfl HNew.out Tryd.underlying137 rfl HI.out) rfl ⟨by rw [HF.out], HBn.out⟩
end Go.Proofs.YtipgimmgjdgdeaaDoor
