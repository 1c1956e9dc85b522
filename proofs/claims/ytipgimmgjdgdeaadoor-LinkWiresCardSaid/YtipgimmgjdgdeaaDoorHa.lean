/- Walk of package hash: Alike. -/
import Derived.Test.YtipgimmgjdgdeaaDoorHu
import Derived.Stop.BytesEq
import Derived.Lib.SlBytesConst
set_option linter.unusedVariables false
set_option linter.unusedSimpArgs false
set_option linter.unnecessarySimpa false
namespace Go.Proofs.YtipgimmgjdgdeaaDoor
open Go.RowKit

/-- What Check answers. -/
def CheckP (w : World) (b : Bs) (e : Ending) (w' : World) : Prop := e = .returned (.agg (bvs ((sha b).take 4)).toArray) ∧ Below w.heap.size w w'
set_option maxRecDepth 8000 in
set_option maxHeartbeats 2000000 in
theorem check_any (w : World) (PA : Option Addr) (pc : Nat) (vs : List Value) (ps : List Bs) (hRo : RoundAt w) (hP : RdC (· < w.heap.size) w PA vs) (hV : RowsOf (· < w.heap.size) w vs ps) (hk : ps.length ≤ 140737488355328) (hl : ps.flatten.length ≤ 35184372088832) :
    Calls Tryd.prog 74 #[.slice PA ps.length pc] w (CheckP w ps.flatten) := by
  have HRo := Lib.hid hRo
  have HP := Lib.hid hP
  have HV := Lib.hid hV
  clear hRo hP hV
  go_enter Tryd.func74, Tryd.ntmps74
  go_wp2_with fail
  generalize hZ : Obj.cells #[Value.int .u8 0, Value.int .u8 0, Value.int .u8 0, Value.int .u8 0] 131 (0, 0) = Z
  have hbz : Below w.heap.size w (w.alloc Z) := (Below.refl _ _).alloc (Nat.le_refl _) _
  have hle : w.heap.size ≤ (w.alloc Z).heap.size := hbz.size
  refine (digest_any (w.alloc Z) PA pc vs ps (HRo.out.below hbz HRo.out.lt) (HP.out.toBelow hbz hle) (HV.out.toBelow hbz hle) hk hl).mono ?_
  rintro e w2 ⟨rfl, hb2⟩
  have hsl := sha_length ps.flatten
  generalize hF : sha ps.flatten = F at *
  have hz : w2.heap[w.heap.size]? = some Z := (hb2.block _ (by simp)).trans (heap_alloc_new _ _)
  rw [← hZ] at hz
  have hb3 : Below w.heap.size w w2 := hbz.trans (hb2.mono hle)
  have hlt : w.heap.size < w2.heap.size := (Array.getElem?_eq_some_iff.1 hz).1
  have hi32 : (Tryd.prog.info? 137).map (·.size) = some ((bvs F).toArray).size := by
    rw [show ((bvs F).toArray).size = 32 by simp [hsl]]
    kernel_rfl
  have hi4 : (Tryd.prog.info? 131).map (·.size) = some ((bvs (F.take 4)).toArray).size := by
    rw [show ((bvs (F.take 4)).toArray).size = 4 by simp [hsl]]
    kernel_rfl
  have hr4 : (w2.alloc (.cells (bvs F).toArray 137 (0, 0))).rangeAt w2.heap.size 0 (bvs (F.take 4)) := fun j v hj => by
    have hjl : j < 4 ∧ (bvs F)[j]? = some v := by
      rw [bvs_take, List.getElem?_take] at hj
      split at hj
      · exact ⟨‹_›, hj⟩
      · cases hj
    rw [cell_of_row _ _ _ _ _ _ (heap_alloc_new _ _)]
    simpa using hjl.2
  have HR4 := Lib.hid hr4
  clear hr4
  have HF := Lib.hid hF
  have HSl := Lib.hid hsl
  have HI := Lib.hid hi32
  have HI4 := Lib.hid hi4
  have HZ := Lib.hid hz
  have HB3 := Lib.hid hb3
  have HZe := Lib.hid hZ
  clear hF hsl hi32 hi4 hz hb3 hb2 hbz hZ
  have hat : ∀ W, (Instr.arrayAt 131 (.slice (some ⟨w2.heap.size, 0, none⟩) 4 32)).run Tryd.prog W = .ok (.pointer (some ⟨w2.heap.size, 0, none⟩)) W := fun W => run_arrayAt W _ _ 4 _ 4 32 Tryd.underlying131 (by omega)
  have hz5 : (w2.alloc (.cells (bvs F).toArray 137 (0, 0))).heap[w.heap.size]? = _ := (heap_alloc_old _ _ hlt).trans HZ.out
  have hnew := setRow_heap _ w.heap.size _ (bvs (F.take 4)).toArray _ _ hz5
  have hbn : Below w.heap.size w ((w2.alloc (.cells (bvs F).toArray 137 (0, 0))).setRow w.heap.size (bvs (F.take 4)).toArray) := below_setRow (HB3.out.alloc (Nat.le_of_lt hlt) _) (Nat.le_refl _) _
  have HNew := Lib.hid hnew
  have HZ5 := Lib.hid hz5
  have HBn := Lib.hid hbn
  clear hnew hz5 hbn
  go_wp2_with (first
    | (with_reducible refine wpList_store_new (op := ⟨none, .store 137 _ _, _, _, _, _⟩) rfl 137 _ _ rfl _ (bvs F).toArray _ rfl rfl (by simp; exact HSl.out.symm) HI.out (by simpa using bv_one F) ?_)
    | (with_reducible refine wpList_load_mid (op := ⟨some 8, _, _, _, _, _⟩) rfl _ _ rfl w2.heap.size 0 rfl (bvs (F.take 4)) _ HR4.out Tryd.underlying131 rfl (by simpa using HI4.out) ?_)
    | (with_reducible refine wpList_store_all (op := ⟨none, .store 131 _ _, _, _, _, _⟩) rfl 131 _ _ rfl w.heap.size _ (bvs (F.take 4)).toArray _ rfl rfl HZ5.out (by simp [HSl.out]) HI4.out (by simpa using bv_one (F.take 4)) ?_))
  refine bodyPost_ret (v := .agg (bvs (F.take 4)).toArray) (results_cell_row rfl _ _ w.heap.size _ _ _ _ rfl HNew.out Tryd.underlying131 rfl HI4.out) rfl ⟨by rw [HF.out], HBn.out⟩
end Go.Proofs.YtipgimmgjdgdeaaDoor
/- Walks of package hash: Check, Alike, Hex. -/
set_option linter.unusedVariables false
set_option linter.unusedSimpArgs false
set_option linter.unnecessarySimpa false
namespace Go.Proofs.YtipgimmgjdgdeaaDoor
open Go.RowKit

theorem eql_bytes {t : TypeId} {n : Nat} (ht : Tryd.prog.underlying t = some (.array n 5)) (xs ys : Bs) (hx : xs.length = n) (hy : ys.length = n) (w : World) :
    (binOp .eql t (.agg (bvs xs).toArray) (.agg (bvs ys).toArray)).run Tryd.prog w = .ok (.bool (xs == ys)) w := by
  obtain ⟨i0, hi⟩ := Option.isSome_iff_exists.1 (show (Tryd.prog.info? 5).isSome = true by kernel_rfl)
  exact run_eql_bytes w t 5 n ht Tryd.underlying5 (fun w => by rw [run_sizeOf w hi]; rw [show Tryd.prog.cellsOf 5 = 1 by kernel_rfl]) xs ys hx hy
/-- A row of rows in a new block. -/
theorem rows_new {w : World} {vs : List Value} {ps : List Bs} (hV : RowsOf (· < w.heap.size) w vs ps) : RdC (· < (w.alloc (.cells vs.toArray 31)).heap.size) (w.alloc (.cells vs.toArray 31)) (some ⟨w.heap.size, 0, none⟩) vs ∧ RowsOf (· < (w.alloc (.cells vs.toArray 31)).heap.size) (w.alloc (.cells vs.toArray 31)) vs ps :=
  ⟨(RdC.new w vs.toArray 31).mono (fun k hk => by simp; omega), hV.toBelow ((Below.refl _ _).alloc (Nat.le_refl _) _) (by simp)⟩
theorem digest_new (w : World) (vs : List Value) (ps : List Bs) (n : Nat) (hn : ps.length = n) (hRo : RoundAt w) (hV : RowsOf (· < w.heap.size) w vs ps) (hk : ps.length ≤ 140737488355328) (hl : ps.flatten.length ≤ 35184372088832) :
    Calls Tryd.prog 80 #[.slice (some ⟨w.heap.size, 0, none⟩) n n] (w.alloc (.cells vs.toArray 31)) (DigestP w ps.flatten) := by
  subst hn
  have hb : Below w.heap.size w (w.alloc (.cells vs.toArray 31)) := (Below.refl _ _).alloc (Nat.le_refl _) _
  obtain ⟨h1, h2⟩ := rows_new hV
  exact (digest_any _ _ ps.length vs ps (hRo.below hb hRo.lt) h1 h2 hk hl).mono fun e w' ⟨he, hb2⟩ => ⟨he, hb.trans (hb2.mono hb.size)⟩
theorem rows_one {ok : Nat → Prop} {w : World} {A : Option Addr} {c n : Nat} {b : Bs} (hA : RdC ok w A (bvs b)) (hc : b.length ≤ c) (hn : b.length = n) : RowsOf ok w [.slice A n c] [b] := by
  subst hn
  exact RowsOf.cons (RowsOf.nil _ _) hA hc
/-- A literal row of bytes. -/
theorem lit_new (w : World) (b : Bs) : RdC (· < (w.alloc (.cells (bvs b).toArray 5)).heap.size) (w.alloc (.cells (bvs b).toArray 5)) (some ⟨w.heap.size, 0, none⟩) (bvs b) :=
  (RdC.new w (bvs b).toArray 5).mono (fun k hk => by simp; omega)
end Go.Proofs.YtipgimmgjdgdeaaDoor
/- Digest and Keyed at rows that are laid for the call. -/
set_option linter.unusedVariables false
set_option linter.unusedSimpArgs false
set_option linter.unnecessarySimpa false
namespace Go.Proofs.YtipgimmgjdgdeaaDoor
open Go.RowKit

/-- What is unlike so far. -/
def unlikeTo (a b : Bs) : Nat → Nat
  | 0 => 0
  | t + 1 => unlikeTo a b t ||| ((a.getD t 0).toNat ^^^ (b.getD t 0).toNat)
theorem unlikeTo_lt (a b : Bs) : ∀ t, unlikeTo a b t < 256
  | 0 => by show 0 < 256; omega
  | t + 1 => Nat.or_lt_two_pow (n := 8) (unlikeTo_lt a b t) (Nat.xor_lt_two_pow (n := 8) (UInt8.toNat_lt _) (UInt8.toNat_lt _))
theorem unlikeTo_zero (a b : Bs) : ∀ t, t ≤ a.length → t ≤ b.length → (unlikeTo a b t = 0 ↔ a.take t = b.take t)
  | 0, _, _ => by simp [unlikeTo]
  | t + 1, ha, hb => by
    unfold unlikeTo
    rw [or_zero, xor_zero, unlikeTo_zero a b t (by omega) (by omega), List.take_succ_eq_append_getElem (by omega), List.take_succ_eq_append_getElem (by omega)]
    have ea : a.getD t 0 = a[t] := by simp [show t < a.length by omega]
    have eb : b.getD t 0 = b[t] := by simp [show t < b.length by omega]
    rw [ea, eb]
    constructor
    · rintro ⟨h1, h2⟩
      rw [h1, UInt8.toNat_inj.1 h2]
    · intro h
      have h3 := List.append_inj h (by simp; omega)
      exact ⟨h3.1, by have := h3.2; simp at this; rw [this]⟩
theorem unlikeTo_all (a b : Bs) (h : a.length = b.length) : unlikeTo a b a.length = 0 ↔ a = b := by
  rw [unlikeTo_zero a b a.length (Nat.le_refl _) (by omega), List.take_length, h, List.take_length]
/-- What Alike answers. -/
def AlikeP (w : World) (a b : Bs) (e : Ending) (w' : World) : Prop := e = .returned (.bool (decide (a = b))) ∧ ∃ n, w' = w.drewN n
set_option maxRecDepth 8000 in
set_option maxHeartbeats 2000000 in
theorem alike_any (w : World) (okA okB : Nat → Prop) (A B : Option Addr) (ca cb : Nat) (a b : Bs) (hA : RdC okA w A (bvs a)) (hB : RdC okB w B (bvs b)) (hla : a.length ≤ 140737488355328) (hlb : b.length ≤ 9223372036854775807) :
    Calls Tryd.prog 81 #[.slice A a.length ca, .slice B b.length cb] w (AlikeP w a b) := by
  have HA := Lib.hid hA
  have HB := Lib.hid hB
  clear hA hB
  by_cases hlen : a.length = b.length
  · have t0 : ((a.length : Int) != (b.length : Int)) = false := by simp [hlen]
    have hub := unlikeTo_all a b hlen
    have HL := Lib.hid hlen
    have HU := Lib.hid hub
    clear hlen hub
    go_enter Tryd.func81, Tryd.ntmps81
    go_wp2_with fail
    go_loopw [5, 14] (fun u i wq => ∃ t : Nat, t ≤ a.length ∧ i = .int .i64 t ∧ u = .int .u8 ((unlikeTo a b t : Nat) : Int) ∧ ∃ n, wq = w.drewN n) (fun _ i _ => a.length - (intOf i).toNat)
    case atStart => exact ⟨0, Nat.zero_le _, rfl, rfl, 0, rfl⟩
    case round =>
      obtain ⟨t, ht, rfl, rfl, n, rfl⟩ := hrel
      by_cases hlt : t < a.length
      · obtain ⟨ad, rfl, _, c1⟩ := HA.out.byte t hlt
        obtain ⟨bd, rfl, _, c2⟩ := HB.out.byte t (by have := HL.out; omega)
        have hlb2 : t < b.length := by have := HL.out; omega
        have hu : unlikeTo a b (t + 1) = unlikeTo a b t ||| ((a.getD t 0).toNat ^^^ (b.getD t 0).toNat) := rfl
        have b1 := unlikeTo_lt a b t
        have b2 := (a.getD t 0).toNat_lt
        have b3 := (b.getD t 0).toNat_lt
        generalize (a.getD t 0).toNat = x at *
        generalize (b.getD t 0).toNat = y at *
        generalize unlikeTo a b t = u at *
        have hx := xor8 x y b2 b3
        have hxl : x ^^^ y < 256 := Nat.xor_lt_two_pow (n := 8) b2 b3
        have ho := or8 u (x ^^^ y) b1 hxl
        have j0 : (0 : Int) ≤ (t : Int) := by omega
        have j1 : (t : Int) < (a.length : Int) := by omega
        have j2 : (t : Int) < (b.length : Int) := by omega
        have HUu := Lib.hid hu
        clear hu
        go_wp2_with fail
        go_quiet (fail)
        go_wp2_with fail
        exact ⟨⟨t + 1, by omega, by go_num, by rw [HUu.out], n + nq, rfl⟩, by simp [intOf]; omega⟩
      · obtain rfl : t = a.length := by omega
        by_cases hab : a = b
        · have t1 : (((unlikeTo a b a.length : Nat) : Int) == 0) = true := by rw [HU.out.2 hab]; rfl
          have HAB := Lib.hid hab
          clear hab
          go_wp2_with fail
          go_ret
          exact ⟨by rw [decide_eq_true HAB.out]; rfl, n, rfl⟩
        · have t1 : (((unlikeTo a b a.length : Nat) : Int) == 0) = false := by simp; exact fun h => hab (HU.out.1 h)
          have HAB := Lib.hid hab
          clear hab
          go_wp2_with fail
          go_ret
          exact ⟨by rw [decide_eq_false HAB.out]; rfl, n, rfl⟩
  · have t0 : ((a.length : Int) != (b.length : Int)) = true := by simp; omega
    have HL := Lib.hid hlen
    clear hlen
    go_enter Tryd.func81, Tryd.ntmps81
    go_wp2_with fail
    go_ret
    exact ⟨by rw [decide_eq_false (fun e => HL.out (by rw [e]))]; rfl, 0, rfl⟩

end Go.Proofs.YtipgimmgjdgdeaaDoor
