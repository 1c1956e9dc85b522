/- Walks of package hash: Check, Alike, Hex. -/
import Derived.Test.YtlhoicbgahnagaaDoorHd
import Derived.Laws.Cover3
set_option linter.unusedVariables false
set_option linter.unusedSimpArgs false
set_option linter.unnecessarySimpa false
namespace Go.Proofs.YtlhoicbgahnagaaDoor
open Go.RowKit

/-- What Check answers. -/
def CheckP (w : World) (b : Bs) (e : Ending) (w' : World) : Prop := e = .returned (.agg (bvs ((sha b).take 4)).toArray) ∧ Below w.heap.size w w'
theorem RdC.toBelow {B : Nat} {w w' : World} {A : Option Addr} {cs : List Value} (h : RdC (· < B) w A cs) (hb : Below B w w') (hB : B ≤ w'.heap.size) : RdC (· < w'.heap.size) w' A cs :=
  (h.below hb).mono fun _ hk => Nat.lt_of_lt_of_le hk hB
theorem RowsOf.toBelow {B : Nat} {w w' : World} {vs : List Value} {ps : List Bs} (h : RowsOf (· < B) w vs ps) (hb : Below B w w') (hB : B ≤ w'.heap.size) : RowsOf (· < w'.heap.size) w' vs ps :=
  (h.below hb).mono fun _ hk => Nat.lt_of_lt_of_le hk hB
set_option maxRecDepth 8000 in
set_option maxHeartbeats 2000000 in
theorem check_any (w : World) (PA : Option Addr) (pc : Nat) (vs : List Value) (ps : List Bs) (hRo : RoundAt w) (hP : RdC (· < w.heap.size) w PA vs) (hV : RowsOf (· < w.heap.size) w vs ps) (hk : ps.length ≤ 140737488355328) (hl : ps.flatten.length ≤ 35184372088832) :
    Calls Tryd.prog 20 #[.slice PA ps.length pc] w (CheckP w ps.flatten) := by
  have HRo := Lib.hid hRo
  have HP := Lib.hid hP
  have HV := Lib.hid hV
  clear hRo hP hV
  go_enter Tryd.func20, Tryd.ntmps20
  go_wp2_with fail
  generalize hZ : Obj.cells #[Value.int .u8 0, Value.int .u8 0, Value.int .u8 0, Value.int .u8 0] 37 (0, 0) = Z
  have hbz : Below w.heap.size w (w.alloc Z) := (Below.refl _ _).alloc (Nat.le_refl _) _
  have hle : w.heap.size ≤ (w.alloc Z).heap.size := hbz.size
  refine (digest_any (w.alloc Z) PA pc vs ps (HRo.out.below hbz HRo.out.lt) (HP.out.toBelow hbz hle) (HV.out.toBelow hbz hle) hk hl).mono ?_
  rintro e w2 ⟨rfl, hb2⟩
  have hsl := sha_length ps.flatten
  generalize hF : sha ps.flatten = F at *
  have hz : w2.heap[w.heap.size]? = some Z := (hb2.block _ (by simp)).trans (heap_alloc_new _ _)
  rw [← hZ] at hz
  have hb3 : Below w.heap.size w w2 := hbz.trans (hb2.mono hle)
  have hlt : w.heap.size < w2.heap.size := (Array.getElem?_eq_some_iff.1 hz).1
  have hi32 : (Tryd.prog.info? 27).map (·.size) = some ((bvs F).toArray).size := by
    rw [show ((bvs F).toArray).size = 32 by simp [hsl]]
    kernel_rfl
  have hi4 : (Tryd.prog.info? 37).map (·.size) = some ((bvs (F.take 4)).toArray).size := by
    rw [show ((bvs (F.take 4)).toArray).size = 4 by simp [hsl]]
    kernel_rfl
  have hr4 : (w2.alloc (.cells (bvs F).toArray 27 (0, 0))).rangeAt w2.heap.size 0 (bvs (F.take 4)) := fun j v hj => by
    have hjl : j < 4 ∧ (bvs F)[j]? = some v := by
      rw [bvs_take, List.getElem?_take] at hj
      split at hj
      · exact ⟨‹_›, hj⟩
      · cases hj
    rw [cell_of_row _ _ _ _ _ _ (heap_alloc_new _ _)]
    simpa using hjl.2
  have HR4 := Lib.hid hr4
  clear hr4
  have HF := Lib.hid hF
  have HSl := Lib.hid hsl
  have HI := Lib.hid hi32
  have HI4 := Lib.hid hi4
  have HZ := Lib.hid hz
  have HB3 := Lib.hid hb3
  have HZe := Lib.hid hZ
  clear hF hsl hi32 hi4 hz hb3 hb2 hbz hZ
  have hat : ∀ W, (Instr.arrayAt 37 (.slice (some ⟨w2.heap.size, 0, none⟩) 4 32)).run Tryd.prog W = .ok (.pointer (some ⟨w2.heap.size, 0, none⟩)) W := fun W => run_arrayAt W _ _ 4 _ 4 32 Tryd.underlying37 (by omega)
  have hz5 : (w2.alloc (.cells (bvs F).toArray 27 (0, 0))).heap[w.heap.size]? = _ := (heap_alloc_old _ _ hlt).trans HZ.out
  have hnew := setRow_heap _ w.heap.size _ (bvs (F.take 4)).toArray _ _ hz5
  have hbn : Below w.heap.size w ((w2.alloc (.cells (bvs F).toArray 27 (0, 0))).setRow w.heap.size (bvs (F.take 4)).toArray) := below_setRow (HB3.out.alloc (Nat.le_of_lt hlt) _) (Nat.le_refl _) _
  have HNew := Lib.hid hnew
  have HZ5 := Lib.hid hz5
  have HBn := Lib.hid hbn
  clear hnew hz5 hbn
  go_wp2_with (first
    | (with_reducible refine wpList_store_new (op := ⟨none, .store 27 _ _, _, _, _, _⟩) rfl 27 _ _ rfl _ (bvs F).toArray _ rfl rfl (by simp; exact HSl.out.symm) HI.out (by simpa using bv_one F) ?_)
    | (with_reducible refine wpList_load_mid (op := ⟨some 8, _, _, _, _, _⟩) rfl _ _ rfl w2.heap.size 0 rfl (bvs (F.take 4)) _ HR4.out Tryd.underlying37 rfl (by simpa using HI4.out) ?_)
    | (with_reducible refine wpList_store_all (op := ⟨none, .store 37 _ _, _, _, _, _⟩) rfl 37 _ _ rfl w.heap.size _ (bvs (F.take 4)).toArray _ rfl rfl HZ5.out (by simp [HSl.out]) HI4.out (by simpa using bv_one (F.take 4)) ?_))
  refine bodyPost_ret (v := .agg (bvs (F.take 4)).toArray) (results_cell_row rfl _ _ w.heap.size _ _ _ _ rfl HNew.out Tryd.underlying37 rfl HI4.out) rfl ⟨by rw [HF.out], HBn.out⟩
theorem or8 (a b : Nat) (ha : a < 256) (hb : b < 256) : bits .or .u8 (a : Int) (b : Int) = ((a ||| b : Nat) : Int) := by
  show IntKind.u8.wrap ((BitVec.ofInt 8 (a : Int) ||| BitVec.ofInt 8 (b : Int)).toNat : Int) = _
  rw [BitVec.toNat_or, BitVec.ofInt_natCast, BitVec.ofInt_natCast, BitVec.toNat_ofNat, BitVec.toNat_ofNat, Nat.mod_eq_of_lt (by omega), Nat.mod_eq_of_lt (by omega)]
  have := Nat.or_lt_two_pow (n := 8) (by omega : a < 2 ^ 8) (by omega : b < 2 ^ 8)
  exact IntWalk.u8_in _ (by omega)
theorem xor8 (a b : Nat) (ha : a < 256) (hb : b < 256) : bits .xor .u8 (a : Int) (b : Int) = ((a ^^^ b : Nat) : Int) := by
  show IntKind.u8.wrap ((BitVec.ofInt 8 (a : Int) ^^^ BitVec.ofInt 8 (b : Int)).toNat : Int) = _
  rw [BitVec.toNat_xor, BitVec.ofInt_natCast, BitVec.ofInt_natCast, BitVec.toNat_ofNat, BitVec.toNat_ofNat, Nat.mod_eq_of_lt (by omega), Nat.mod_eq_of_lt (by omega)]
  have := Nat.xor_lt_two_pow (n := 8) (by omega : a < 2 ^ 8) (by omega : b < 2 ^ 8)
  exact IntWalk.u8_in _ (by omega)
theorem and8 (a b : Nat) (ha : a < 256) (hb : b < 256) : bits .and .u8 (a : Int) (b : Int) = ((a &&& b : Nat) : Int) := by
  show IntKind.u8.wrap ((BitVec.ofInt 8 (a : Int) &&& BitVec.ofInt 8 (b : Int)).toNat : Int) = _
  rw [BitVec.toNat_and, BitVec.ofInt_natCast, BitVec.ofInt_natCast, BitVec.toNat_ofNat, BitVec.toNat_ofNat, Nat.mod_eq_of_lt (by omega), Nat.mod_eq_of_lt (by omega)]
  have := Nat.and_lt_two_pow (n := 8) a (by omega : b < 2 ^ 8)
  exact IntWalk.u8_in _ (by omega)
theorem or_zero (a b : Nat) : a ||| b = 0 ↔ a = 0 ∧ b = 0 := by
  constructor
  · intro h
    have h1 : a ≤ a ||| b := Nat.left_le_or
    have h2 : b ≤ a ||| b := Nat.right_le_or
    omega
  · rintro ⟨rfl, rfl⟩; rfl
theorem xor_zero (a b : Nat) : a ^^^ b = 0 ↔ a = b := by
  constructor
  · intro h
    have : (a ^^^ b) ^^^ b = 0 ^^^ b := by rw [h]
    rwa [Nat.xor_assoc, Nat.xor_self, Nat.xor_zero, Nat.zero_xor] at this
  · rintro rfl; exact Nat.xor_self _
/-- What is unlike so far. -/
def unlikeTo (a b : Bs) : Nat → Nat
  | 0 => 0
  | t + 1 => unlikeTo a b t ||| ((a.getD t 0).toNat ^^^ (b.getD t 0).toNat)
theorem unlikeTo_lt (a b : Bs) : ∀ t, unlikeTo a b t < 256
  | 0 => by show 0 < 256; omega
  | t + 1 => Nat.or_lt_two_pow (n := 8) (unlikeTo_lt a b t) (Nat.xor_lt_two_pow (n := 8) (UInt8.toNat_lt _) (UInt8.toNat_lt _))
theorem unlikeTo_zero (a b : Bs) : ∀ t, t ≤ a.length → t ≤ b.length → (unlikeTo a b t = 0 ↔ a.take t = b.take t)
  | 0, _, _ => by simp [unlikeTo]
  | t + 1, ha, hb => by
    unfold unlikeTo
    rw [or_zero, xor_zero, unlikeTo_zero a b t (by omega) (by omega), List.take_succ_eq_append_getElem (by omega), List.take_succ_eq_append_getElem (by omega)]
    have ea : a.getD t 0 = a[t] := by simp [show t < a.length by omega]
    have eb : b.getD t 0 = b[t] := by simp [show t < b.length by omega]
    rw [ea, eb]
    constructor
    · rintro ⟨h1, h2⟩
      rw [h1, UInt8.toNat_inj.1 h2]
    · intro h
      have h3 := List.append_inj h (by simp; omega)
      exact ⟨h3.1, by have := h3.2; simp at this; rw [this]⟩
theorem unlikeTo_all (a b : Bs) (h : a.length = b.length) : unlikeTo a b a.length = 0 ↔ a = b := by
  rw [unlikeTo_zero a b a.length (Nat.le_refl _) (by omega), List.take_length, h, List.take_length]
/-- What Alike answers. -/
def AlikeP (w : World) (a b : Bs) (e : Ending) (w' : World) : Prop := e = .returned (.bool (decide (a = b))) ∧ ∃ n, w' = w.drewN n
theorem RdC.byte {ok : Nat → Prop} {w : World} {A : Option Addr} {b : Bs} (h : RdC ok w A (bvs b)) (k : Nat) (hk : k < b.length) :
    ∃ ad, A = some ad ∧ ok ad.block ∧ w.cell? (ad.add k) = some (.int .u8 (((b.getD k 0).toNat : Nat) : Int)) := by
  obtain ⟨ad, e, hb, hc⟩ := h (by intro e; have : b = [] := List.map_eq_nil_iff.1 e; subst this; simp at hk)
  exact ⟨ad, e, hb, hc k _ (by simp [bvs, bv, hk])⟩
theorem RdC.drewN {ok : Nat → Prop} {w : World} {A : Option Addr} {cs : List Value} (h : RdC ok w A cs) (n : Nat) : RdC ok (w.drewN n) A cs := h
set_option maxRecDepth 8000 in
set_option maxHeartbeats 2000000 in
theorem alike_any (w : World) (okA okB : Nat → Prop) (A B : Option Addr) (ca cb : Nat) (a b : Bs) (hA : RdC okA w A (bvs a)) (hB : RdC okB w B (bvs b)) (hla : a.length ≤ 140737488355328) (hlb : b.length ≤ 9223372036854775807) :
    Calls Tryd.prog 22 #[.slice A a.length ca, .slice B b.length cb] w (AlikeP w a b) := by
  have HA := Lib.hid hA
  have HB := Lib.hid hB
  clear hA hB
  by_cases hlen : a.length = b.length
  · have t0 : ((a.length : Int) != (b.length : Int)) = false := by simp [hlen]
    have hub := unlikeTo_all a b hlen
    have HL := Lib.hid hlen
    have HU := Lib.hid hub
    clear hlen hub
    go_enter Tryd.func22, Tryd.ntmps22
    go_wp2_with fail
    go_loopw [5, 14] (fun u i wq => ∃ t : Nat, t ≤ a.length ∧ i = .int .i64 t ∧ u = .int .u8 ((unlikeTo a b t : Nat) : Int) ∧ ∃ n, wq = w.drewN n) (fun _ i _ => a.length - (intOf i).toNat)
    case atStart => exact ⟨0, Nat.zero_le _, rfl, rfl, 0, rfl⟩
    case round =>
      obtain ⟨t, ht, rfl, rfl, n, rfl⟩ := hrel
      by_cases hlt : t < a.length
      · obtain ⟨ad, rfl, _, c1⟩ := HA.out.byte t hlt
        obtain ⟨bd, rfl, _, c2⟩ := HB.out.byte t (by have := HL.out; omega)
        have hlb2 : t < b.length := by have := HL.out; omega
        have hu : unlikeTo a b (t + 1) = unlikeTo a b t ||| ((a.getD t 0).toNat ^^^ (b.getD t 0).toNat) := rfl
        have b1 := unlikeTo_lt a b t
        have b2 := (a.getD t 0).toNat_lt
        have b3 := (b.getD t 0).toNat_lt
        generalize (a.getD t 0).toNat = x at *
        generalize (b.getD t 0).toNat = y at *
        generalize unlikeTo a b t = u at *
        have hx := xor8 x y b2 b3
        have hxl : x ^^^ y < 256 := Nat.xor_lt_two_pow (n := 8) b2 b3
        have ho := or8 u (x ^^^ y) b1 hxl
        have j0 : (0 : Int) ≤ (t : Int) := by omega
        have j1 : (t : Int) < (a.length : Int) := by omega
        have j2 : (t : Int) < (b.length : Int) := by omega
        have HUu := Lib.hid hu
        clear hu
        go_wp2_with fail
        go_quiet (fail)
        go_wp2_with fail
        exact ⟨⟨t + 1, by omega, by go_num, by rw [HUu.out], n + nq, rfl⟩, by simp [intOf]; omega⟩
      · obtain rfl : t = a.length := by omega
        by_cases hab : a = b
        · have t1 : (((unlikeTo a b a.length : Nat) : Int) == 0) = true := by rw [HU.out.2 hab]; rfl
          have HAB := Lib.hid hab
          clear hab
          go_wp2_with fail
          go_ret
          exact ⟨by rw [decide_eq_true HAB.out]; rfl, n, rfl⟩
        · have t1 : (((unlikeTo a b a.length : Nat) : Int) == 0) = false := by simp; exact fun h => hab (HU.out.1 h)
          have HAB := Lib.hid hab
          clear hab
          go_wp2_with fail
          go_ret
          exact ⟨by rw [decide_eq_false HAB.out]; rfl, n, rfl⟩
  · have t0 : ((a.length : Int) != (b.length : Int)) = true := by simp; omega
    have HL := Lib.hid hlen
    clear hlen
    go_enter Tryd.func22, Tryd.ntmps22
    go_wp2_with fail
    go_ret
    exact ⟨by rw [decide_eq_false (fun e => HL.out (by rw [e]))]; rfl, 0, rfl⟩
end Go.Proofs.YtlhoicbgahnagaaDoor
