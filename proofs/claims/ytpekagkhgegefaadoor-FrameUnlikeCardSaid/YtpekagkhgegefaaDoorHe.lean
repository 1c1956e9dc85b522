/- Walks of package hash: begin, end. -/
import Derived.Test.YtpekagkhgegefaaDoorHt
set_option linter.unusedVariables false
set_option linter.unusedSimpArgs false
set_option linter.unnecessarySimpa false
namespace Go.Proofs.YtpekagkhgegefaaDoor
open Go.RowKit

def noX : Nat → Prop := fun _ => False
def stateObj : Obj := .cells #[.int .u32 1779033703, .int .u32 3144134277, .int .u32 1013904242, .int .u32 2773480762, .int .u32 1359893119, .int .u32 2600822924, .int .u32 528734635, .int .u32 1541459225, .slice none 0 0, .int .u64 0] 141 (0, 0)
def BeginP (w : World) (e : Ending) (w' : World) : Prop := e = .returned (.pointer (some ⟨w.heap.size, 0, none⟩)) ∧ w' = w.alloc stateObj
theorem begin_any (w : World) : Calls Tryd.prog 76 #[] w (BeginP w) := by
  go_enter Tryd.func76, Tryd.ntmps76
  go_wp2
  go_ret
  exact ⟨rfl, rfl⟩
theorem begin_is (w : World) (base : Nat) (hb : base ≤ w.heap.size) : StIs (w.alloc stateObj) base noX w.heap.size [] := by
  unfold StIs
  rw [whole_few _ _ (by decide)]
  exact ⟨hb, .slice none 0 0, heap_alloc_new _ _, .inl ⟨rfl, rfl⟩, by simp [Value.ownBlock], fun k hk => hk.elim⟩

theorem restLen_is {w : World} {base : Nat} {X : Nat → Prop} {g : Nat} {v : V8} {r : Bs} {n : Nat} (h : StOf w base X g v r n) : restLen w g = r.length := by
  obtain ⟨_, rv, hst, how, _⟩ := h
  obtain ⟨A, m, rfl, _⟩ := how.slice
  obtain ⟨_, _, _, _, _, _, _, _, d8, _⟩ := hst.cells
  unfold restLen
  rw [d8]
  simp
theorem restLen_take {w : World} {base : Nat} {X : Nat → Prop} {g : Nat} {b : Bs} (h : StIs w base X g b) : restLen w g = b.length % 64 := by
  rw [restLen_is h, whole_rest_length _ _ _ (Nat.le_refl _)]
theorem words_index (v : V8) (t : Nat) (h : t < 8) (w : World) : (Instr.index 139 (.agg (u32s v.list).toArray) (.int .i64 (t : Int))).run Tryd.prog w = .ok (.int .u32 ((v.list.getD t 0 : Nat) : Int)) w := by
  have hlt : t < v.list.length := by rw [V8.list_length]; exact h
  have hs : Tryd.prog.cellsOf 107 = 1 := by kernel_rfl
  obtain ⟨i0, hi⟩ := Option.isSome_iff_exists.1 (show (Tryd.prog.info? 107).isSome = true by kernel_rfl)
  simp [Instr.index, run_underlying Tryd.underlying139, asIntOf, run_sizeOf w hi, hs, part, h, isAgg, run_underlying Tryd.underlying107, u32s]
  rw [List.getElem?_eq_getElem hlt]
  rfl
theorem StAt.range {w : World} {g : Nat} {v : V8} {rest : Value} {n : Nat} (h : StAt w g v rest n) : w.rangeAt g 0 (u32s v.list) := by
  obtain ⟨c0, c1, c2, c3, c4, c5, c6, c7, _⟩ := h.cells
  intro j u hj
  have hl : j < 8 := by
    have := (List.getElem?_eq_some_iff.1 hj).1
    simpa [u32s, V8.list_length] using this
  have : j = 0 ∨ j = 1 ∨ j = 2 ∨ j = 3 ∨ j = 4 ∨ j = 5 ∨ j = 6 ∨ j = 7 := by omega
  rcases this with rfl | rfl | rfl | rfl | rfl | rfl | rfl | rfl <;> (simp [u32s, V8.list] at hj; subst hj; assumption)
theorem shr_byte (N k : Nat) : Value.int .u8 ((N : Int) / 2 ^ k % 256) = bv (UInt8.ofNat (N >>> k)) := by
  unfold bv
  congr 1
  rw [Nat.shiftRight_eq_div_pow, UInt8.toNat_ofNat']
  have e : (N : Int) / 2 ^ k = ((N / 2 ^ k : Nat) : Int) := by simp
  rw [e]
  omega
theorem wordBytes_length (w : Nat) : (wordBytes w).length = 4 := rfl
theorem flat_length : ∀ (L : List Nat), (L.flatMap wordBytes).length = 4 * L.length
  | [] => rfl
  | x :: L => by rw [List.flatMap_cons, List.length_append, flat_length L, wordBytes_length, List.length_cons]; omega
theorem flat_get : ∀ (L : List Nat) (t k : Nat), t < L.length → k < 4 → (L.flatMap wordBytes).getD (4 * t + k) 0 = UInt8.ofNat (L.getD t 0 >>> (24 - 8 * k))
  | [], t, k, h, _ => by simp at h
  | x :: L, 0, k, _, hk => by
    rw [List.flatMap_cons, List.getD_eq_getElem?_getD, List.getElem?_append_left (by rw [wordBytes_length]; omega)]
    have : k = 0 ∨ k = 1 ∨ k = 2 ∨ k = 3 := by omega
    rcases this with rfl | rfl | rfl | rfl <;> rfl
  | x :: L, t + 1, k, h, hk => by
    rw [List.flatMap_cons, List.getD_eq_getElem?_getD, List.getElem?_append_right (by rw [wordBytes_length]; omega), wordBytes_length, show 4 * (t + 1) + k - 4 = 4 * t + k by omega, ← List.getD_eq_getElem?_getD, flat_get L t k (by simpa using h) hk]
    simp
/-- An array of bytes in a block of its own. -/
def BArr (w : World) (H : Nat) (T : TypeId) (bs : Bs) : Prop := w.heap[H]? = some (.cells (bvs bs).toArray T (0, 0))
theorem BArr.lt {w : World} {H : Nat} {T : TypeId} {bs : Bs} (h : BArr w H T bs) : H < w.heap.size := (Array.getElem?_eq_some_iff.1 h).1
theorem BArr.cell {w : World} {H : Nat} {T : TypeId} {bs : Bs} (h : BArr w H T bs) (k : Nat) (hk : k < bs.length) : w.cell? ⟨H, k, none⟩ = some (bv (bs.getD k 0)) := by
  have h' : w.heap[H]? = _ := h
  simp [World.cell?, h', bvs, hk]
theorem BArr.frozen {w : World} {H : Nat} {T : TypeId} {bs : Bs} (h : BArr w H T bs) (k : Nat) : w.frozen? ⟨H, k, none⟩ = false := by
  have h' : w.heap[H]? = _ := h
  simp [World.frozen?, h']
theorem BArr.set {w : World} {H : Nat} {T : TypeId} {bs : Bs} (h : BArr w H T bs) (k : Nat) (y : UInt8) : BArr (w.setCell ⟨H, k, none⟩ (bv y)) H T (bs.set k y) := by
  have h1 := heap_setCell_same w H k _ T (bv y) h
  unfold BArr
  rw [h1]
  simp [bvs, List.map_set]
theorem BArr.move {w w' : World} {H : Nat} {T : TypeId} {bs : Bs} (h : BArr w H T bs) (e : w'.heap[H]? = w.heap[H]?) : BArr w' H T bs := e.trans h
theorem BArr.reads {w : World} {H : Nat} {T : TypeId} {bs : Bs} (h : BArr w H T bs) : RdC (fun k => k = H) w (some ⟨H, 0, none⟩) (bvs bs) := fun _ =>
  ⟨_, rfl, rfl, World.news_of_block (cs := (bvs bs).toArray) (t := T) (fr := (0, 0)) h⟩
theorem BArr.range {w : World} {H : Nat} {T : TypeId} {bs : Bs} (h : BArr w H T bs) : w.rangeAt H 0 (bvs bs) := fun j v hj => by
  have h' : w.heap[H]? = _ := h
  simpa [World.cell?, h'] using hj
/-- A whole array is stored into its variable. -/
theorem wpList_store_all {P : Program} {ops : Array Oper} {rest : List Oper} {op : Oper} {a : Act} {w : World} {Q : Exit → Act → World → Prop} (hgd : op.guard = none) (ty : TypeId) (x y : Operand) (ho : op.op = .store ty x y)
    (H : Nat) (cur cells : Array Value) (t : TypeId) (hx : a.eval x = .pointer (some ⟨H, 0, none⟩)) (hy : a.eval y = .agg cells) (hg : w.heap[H]? = some (.cells cur t (0, 0))) (hsz : cur.size = cells.size)
    (hi : (P.info? ty).map (·.size) = some cells.size) (h1 : ∀ v ∈ cells.toList, v.oneCell' = true)
    (h : wpList P ops Q rest (a.put op.dst undef) (w.setRow H cells)) : wpList P ops Q (op :: rest) a w := by
  refine wpList_plain hgd fun _ hK => ?_
  have hst := run_storeCells_at P H 0 t cells.toList 0 cur w hg (by simp; omega) h1
  have e : (cur.toList.take (0 + 0) ++ cells.toList ++ cur.toList.drop (0 + 0 + cells.toList.length)).toArray = cells := by
    rw [List.drop_eq_nil_of_le (by simp; omega)]
    simp
  rw [e] at hst
  have hs : (storeVar ty ⟨H, 0, none⟩ (.agg cells)).run P w = .ok () (w.setRow H cells) := by
    cases hq : P.info? ty with
    | none => simp [hq] at hi
    | some i =>
      have hs : cells.size = i.size := by simp [hq] at hi; omega
      simp [storeVar, sizeOf, typeInfo, hq, Value.cells, hs, hst]
  unfold Oper.wp execOp
  simp only [ho, hx, hy, Instr.storeAt, Instr.sureAddr, Sem.run_bind, Sem.run_pure, Result.andThen_ok, hs]
  exact hK _ _ h
theorem alloc_setRow (w : World) (cur cells : Array Value) (t : TypeId) : (w.alloc (.cells cur t (0, 0))).setRow w.heap.size cells = w.alloc (.cells cells t (0, 0)) := by
  unfold World.setRow World.alloc
  congr 1
  apply Array.ext_getElem?
  intro i
  rw [Array.getElem?_modify]
  by_cases h : i = w.heap.size
  · subst h
    simp
  · rw [if_neg (fun e => h e.symm)]
    simp only [Array.getElem?_push]
    rw [if_neg h, if_neg h]
/-- .. into a variable that was just made. -/
theorem wpList_store_new {P : Program} {ops : Array Oper} {rest : List Oper} {op : Oper} {a : Act} {w : World} {Q : Exit → Act → World → Prop} (hgd : op.guard = none) (ty : TypeId) (x y : Operand) (ho : op.op = .store ty x y)
    (cur cells : Array Value) (t : TypeId) (hx : a.eval x = .pointer (some ⟨w.heap.size, 0, none⟩)) (hy : a.eval y = .agg cells) (hsz : cur.size = cells.size)
    (hi : (P.info? ty).map (·.size) = some cells.size) (h1 : ∀ v ∈ cells.toList, v.oneCell' = true)
    (h : wpList P ops Q rest (a.put op.dst undef) (w.alloc (.cells cells t))) : wpList P ops Q (op :: rest) a (w.alloc (.cells cur t)) :=
  wpList_store_all hgd ty x y ho w.heap.size cur cells t hx hy (heap_alloc_new _ _) hsz hi h1 (by rw [alloc_setRow]; exact h)
/-- The first t of the bytes xs, then zeros. -/
def fillL (xs : Bs) (t : Nat) : Bs := xs.take t ++ List.replicate (xs.length - t) 0
theorem fillL_length (xs : Bs) (t : Nat) (h : t ≤ xs.length) : (fillL xs t).length = xs.length := by
  unfold fillL
  rw [List.length_append, List.length_take, List.length_replicate]
  omega
theorem fillL_set (xs : Bs) (t : Nat) (h : t < xs.length) : (fillL xs t).set t (xs.getD t 0) = fillL xs (t + 1) := by
  unfold fillL
  rw [List.set_append_right _ _ (by rw [List.length_take]; omega), List.length_take, show xs.length - t = (xs.length - (t + 1)) + 1 by omega, List.replicate_succ, show t - min t xs.length = 0 by omega, List.set_cons_zero, List.take_succ_eq_append_getElem h, List.append_assoc]
  simp [h]
theorem fillL_all (xs : Bs) : fillL xs xs.length = xs := by simp [fillL]
theorem lengthBytes_length (n : Nat) : (lengthBytes n).length = 8 := by simp [lengthBytes]
theorem lengthBytes_get (n t : Nat) (h : t < 8) : (lengthBytes n).getD t 0 = UInt8.ofNat (n >>> (56 - 8 * t)) := by
  unfold lengthBytes
  rw [List.getD_eq_getElem?_getD, List.getElem?_map, List.getElem?_range h]
  rfl
def EndP (w : World) (base : Nat) (b : Bs) (e : Ending) (w' : World) : Prop := e = .returned (.agg (bvs (sha b)).toArray) ∧ Below base w w'
set_option maxRecDepth 8000 in
set_option maxHeartbeats 4000000 in
theorem end_any (w : World) (base : Nat) (X : Nat → Prop) (g : Nat) (b : Bs) (hbase : base ≤ w.heap.size) (hSt : StIs w base X g b) (hRo : RoundAt w) (hlt : 19 < base) (hl : b.length ≤ 35184372088832) :
    Calls Tryd.prog 78 #[.pointer (some ⟨g, 0, none⟩)] w (EndP w base b) := by
  have hlt2 := hSt.lt
  obtain ⟨hbg, rv, hst, _⟩ := id hSt
  obtain ⟨c0, c1, c2, c3, c4, c5, c6, c7, c8, c9, cf⟩ := hst.cells
  have k1 : IntKind.u64.wrap ((b.length : Int) * 8) = (b.length : Int) * 8 := IntWalk.u64_in _ (by omega)
  have HSt := Lib.hid hSt
  have HRo := Lib.hid hRo
  clear hSt hRo c0 c1 c2 c3 c4 c5 c6 c7 c8 cf hst
  go_enter Tryd.func78, Tryd.ntmps78
  go_wp2_with fail
  generalize hZ : Obj.cells #[Value.int .u8 0, Value.int .u8 0, Value.int .u8 0, Value.int .u8 0, Value.int .u8 0, Value.int .u8 0, Value.int .u8 0, Value.int .u8 0, Value.int .u8 0, Value.int .u8 0, Value.int .u8 0, Value.int .u8 0, Value.int .u8 0, Value.int .u8 0, Value.int .u8 0, Value.int .u8 0, Value.int .u8 0, Value.int .u8 0, Value.int .u8 0, Value.int .u8 0, Value.int .u8 0, Value.int .u8 0, Value.int .u8 0, Value.int .u8 0, Value.int .u8 0, Value.int .u8 0, Value.int .u8 0, Value.int .u8 0, Value.int .u8 0, Value.int .u8 0, Value.int .u8 0, Value.int .u8 0] 117 (0, 0) = Z
  have HZ := Lib.hid hZ
  clear hZ
  have hbz : Below w.heap.size w (w.alloc Z) := (Below.refl _ _).alloc (Nat.le_refl _) _
  have hsz : StIs (w.alloc Z) base (fun k => k = w.heap.size) g b := StOf.other HSt.out _ hbz (fun k hk => .inr ⟨by omega, by simp; omega⟩)
  refine (take_one (w.alloc Z) base (fun k => k = w.heap.size) g b 128 (w.heap.size + 1) (by simp) (by simp; omega) hsz (HRo.out.below hbz HRo.out.lt) hlt (by omega)).mono ?_
  rintro e w1 ⟨rfl, hs1, hb1, hx1⟩
  have hz1 : w1.heap[w.heap.size]? = some Z := (hx1 _ rfl).trans (heap_alloc_new _ _)
  have hbw1 : Below base w w1 := ((Below.refl _ _).alloc hbase _).trans hb1
  have HS1 := Lib.hid hs1
  have HZ1 := Lib.hid hz1
  have HB1 := Lib.hid hbw1
  clear hbz hsz hs1 hz1 hbw1 hb1 hx1
  go_wp2_with fail
  go_loopw [18] (fun _ wq => ∃ k, k ≤ (119 - b.length % 64) % 64 ∧ StIs wq base (fun k => k = w.heap.size) g (b ++ [128] ++ List.replicate k 0) ∧ wq.heap[w.heap.size]? = some Z ∧ Below base w wq) (fun _ wq => if restLen wq g ≤ 56 then 56 - restLen wq g else 120 - restLen wq g)
  case atStart => exact ⟨0, Nat.zero_le _, by simpa using HS1.out, HZ1.out, HB1.out⟩
  case round =>
    obtain ⟨k, hk, hst, hz, hbel⟩ := hrel
    have hrl := whole_rest_length _ V8.first (b ++ [128] ++ List.replicate k 0) (Nat.le_refl _)
    have hln : (b ++ [128] ++ List.replicate k (0 : UInt8)).length = b.length + 1 + k := by simp; omega
    have hq0 := restLen_take hst
    rw [hln] at hq0
    have HQ0 := Lib.hid hq0
    clear hq0
    rw [hln] at hrl
    obtain ⟨_, rv', hst', how, hne, _⟩ := id hst
    obtain ⟨A', m', rfl, hm1', hm2'⟩ := how.slice
    rw [bvs_length] at *
    obtain ⟨d0, d1, d2, d3, d4, d5, d6, d7, d8, d9, df⟩ := hst'.cells
    have hbw : base ≤ wr.heap.size := Nat.le_trans hbase hbel.size
    generalize (whole V8.first (b ++ [128] ++ List.replicate k 0)).2.length = q at *
    have HSt1 := Lib.hid hst
    have HZ2 := Lib.hid hz
    have HB2 := Lib.hid hbel
    have HRl := Lib.hid hrl
    have HLn := Lib.hid hln
    clear hst hz hbel hst' how hne d0 d1 d2 d3 d4 d5 d6 d7 df hrl hln
    by_cases h56 : q = 56
    · have t1 : ((q : Int) == 56) = true := by simp; omega
      have t2 : ((q : Int) != 56) = false := by simp; omega
      have hk3 : k = (119 - b.length % 64) % 64 := by have := HRl.out; omega
      have HK := Lib.hid hk3
      clear hk3
      go_wp2_with fail
      generalize hY : b ++ [128] ++ List.replicate k 0 = y at *
      have HYe := Lib.hid hY
      clear hY
      obtain ⟨wo, rfl⟩ : ∃ x : World, x = wr := ⟨_, rfl⟩
      go_loopw [27] (fun i wq => ∃ t : Nat, t ≤ 8 ∧ i = .int .i64 t ∧ BArr wq wo.heap.size 142 (fillL (lengthBytes (b.length * 8)) t) ∧ StIs wq base (fun k => k = w.heap.size ∨ k = wo.heap.size) g y ∧ wq.heap[w.heap.size]? = some Z ∧ Below base w wq) (fun i _ => 8 - (intOf i).toNat)
      case atStart =>
        have hzl : w.heap.size < wo.heap.size := (Array.getElem?_eq_some_iff.1 HZ2.out).1
        exact ⟨0, by omega, rfl, heap_alloc_new _ _, StOf.other HSt1.out _ ((Below.refl _ _).alloc (Nat.le_refl _) _) (fun k hk => hk.imp id (fun e => ⟨by omega, by simp; omega⟩)), (heap_alloc_old _ _ hzl).trans HZ2.out, HB2.out.alloc hbw _⟩
      case round =>
        obtain ⟨t, ht, rfl, harr, hst, hz, hbel⟩ := hrel
        by_cases h8 : t < 8
        · have c1 := harr.cell t (by rw [fillL_length _ _ (by rw [lengthBytes_length]; omega), lengthBytes_length]; omega)
          have cf := harr.frozen t
          have j0 : (0 : Int) ≤ (t : Int) := by omega
          have j1 : (t : Int) < 8 := by omega
          have hadd : ∀ b j, (⟨b, 0, none⟩ : Addr).add j = ⟨b, j, none⟩ := fun b j => by unfold Addr.add; split <;> simp_all
          have m0 : IntKind.i64.wrap (8 * (t : Int)) = 8 * (t : Int) := IntWalk.i64_in _ (by omega)
          have m1 : IntKind.i64.wrap (56 - 8 * (t : Int)) = 56 - 8 * (t : Int) := IntWalk.i64_in _ (by omega)
          have m2 : (0 : Int) ≤ 56 - 8 * (t : Int) := by omega
          have m3 : (56 - 8 * (t : Int)).toNat = 56 - 8 * t := by omega
          have m4 : 56 - 8 * t < 64 := by omega
          go_wp2_with fail
          have eN : (b.length : Int) * 8 = ((b.length * 8 : Nat) : Int) := by simp
          rw [eN, shr_byte]
          have hf := fillL_set (lengthBytes (b.length * 8)) t (by rw [lengthBytes_length]; exact h8)
          rw [lengthBytes_get _ _ h8] at hf
          have hne : w.heap.size ≠ wo.heap.size := by have := (Array.getElem?_eq_some_iff.1 HZ2.out).1; omega
          refine ⟨⟨t + 1, by omega, by go_num, ?_, StOf.store hst _ _ _ (.inr rfl), (heap_setCell_other _ _ _ _ hne).trans hz, below_set hbel _ _ _ hbw⟩, by simp [intOf]; omega⟩
          rw [← hf]
          exact harr.set t _
        · obtain rfl : t = 8 := by omega
          have hfa := fillL_all (lengthBytes (b.length * 8))
          rw [lengthBytes_length] at hfa
          rw [hfa] at harr
          have hbw2 : base ≤ wr.heap.size := Nat.le_trans hbase hbel.size
          have HArr := Lib.hid harr
          have HSt2 := Lib.hid hst
          have HZ3 := Lib.hid hz
          have HB3 := Lib.hid hbel
          clear harr hst hz hbel hfa
          rw [show ((8 : Nat) : Int) = 8 from rfl]
          go_wp2_with fail
          have hc := take_any wr base (fun k => k = w.heap.size ∨ k = wo.heap.size) g y (lengthBytes (b.length * 8)) (fun k => k = wo.heap.size) (some ⟨wo.heap.size, 0, none⟩) 8 hbw2 HSt2.out (HRo.out.below HB3.out hlt) hlt HArr.out.reads (fun k hk => by
            obtain ⟨_, _, _, _, _, h5⟩ := HSt2.out
            have := (h5 k (.inr hk)).2.1
            exact this) (by rw [lengthBytes_length, HLn.out]; omega)
          rw [lengthBytes_length] at hc
          refine hc.mono ?_
          clear hc
          rintro e w3 ⟨rfl, hs3, hb3, hx3⟩
          have hy2 : y ++ lengthBytes (b.length * 8) = b ++ padding b.length := by rw [← HYe.out, HK.out]; simp [padding]
          rw [hy2] at hs3
          have hsha : sha b = (whole V8.first (b ++ padding b.length)).1.list.flatMap wordBytes := sha_whole b
          have hz3 : w3.heap[w.heap.size]? = some Z := (hx3 _ (.inl rfl)).trans HZ3.out
          obtain ⟨_, rv3, hst3, _⟩ := hs3
          generalize (whole V8.first (b ++ padding b.length)).1 = u at *
          have hsl : (sha b).length = 32 := by rw [hsha, flat_length, V8.list_length]
          have hsg : ∀ t k, t < 8 → k < 4 → (sha b).getD (4 * t + k) 0 = UInt8.ofNat (u.list.getD t 0 >>> (24 - 8 * k)) := fun t k h1 h2 => by rw [hsha]; exact flat_get _ _ _ (by rw [V8.list_length]; exact h1) h2
          generalize hFF : sha b = F at *
          have HFF := Lib.hid hFF
          clear hFF
          obtain ⟨L, hL1, hL2, hL3⟩ : ∃ L : List Value, w3.rangeAt g 0 L ∧ L.length = 8 ∧ ∀ t : Nat, t < 8 → ∀ w, (Instr.index 139 (.agg L.toArray) (.int .i64 (t : Int))).run Tryd.prog w = .ok (.int .u32 ((u.list.getD t 0 : Nat) : Int)) w :=
            ⟨u32s u.list, hst3.range, by simp [u32s, V8.list_length], words_index u⟩
          have HL1 := Lib.hid hL1
          have HL2 := Lib.hid hL2
          have HL3 := Lib.hid hL3
          have HZ4 := Lib.hid hz3
          have HB4 := Lib.hid (HB3.out.trans hb3)
          have HSl := Lib.hid hsl
          have HSg := Lib.hid hsg
          have hw3 : base ≤ w3.heap.size := Nat.le_trans hbase HB4.out.size
          have hw4 : w.heap.size < w3.heap.size := (Array.getElem?_eq_some_iff.1 hz3).1
          clear hL1 hL2 hL3 hz3 hb3 hx3 hst3 hsl hsg hsha hy2
          go_wp2_with (with_reducible refine wpList_load_mid (op := ⟨some 45, _, _, _, _, _⟩) rfl _ _ rfl g 0 rfl L _ (World.rangeAt_alloc HL1.out _) Tryd.underlying139 rfl (by rw [HL2.out]; kernel_rfl) ?_)
          go_loopw [46] (fun i wq => ∃ t : Nat, t ≤ 8 ∧ i = .int .i64 t ∧ BArr wq w3.heap.size 117 (fillL F (4 * t)) ∧ wq.heap[w.heap.size]? = some Z ∧ Below base w wq) (fun i _ => 8 - (intOf i).toNat)
          case atStart =>
            refine ⟨0, by omega, rfl, ?_, (heap_alloc_old _ _ hw4).trans HZ4.out, HB4.out.alloc hw3 _⟩
            unfold BArr fillL
            rw [heap_alloc_new, HSl.out]
            rfl
          case round =>
            obtain ⟨t, ht, rfl, harr, hz, hbel⟩ := hrel
            by_cases h8' : t < 8
            · have hix := HL3.out t h8'
              have hg4 := HSg.out t
              generalize u.list.getD t 0 = x at *
              have j0 : (0 : Int) ≤ (t : Int) := by omega
              have j1 : (t : Int) < 8 := by omega
              have HArr3 := Lib.hid harr
              have HZ5 := Lib.hid hz
              have HB5 := Lib.hid hbel
              have HG4 := Lib.hid hg4
              clear harr hz hbel hg4
              go_wp2_with fail
              obtain ⟨wp, rfl⟩ : ∃ x : World, x = wr := ⟨_, rfl⟩
              go_loopw [50] (fun i wq => ∃ k : Nat, k ≤ 4 ∧ i = .int .i64 k ∧ BArr wq w3.heap.size 117 (fillL F (4 * t + k)) ∧ wq.heap[w.heap.size]? = some Z ∧ Below base w wq) (fun i _ => 4 - (intOf i).toNat)
              case atStart => exact ⟨0, by omega, rfl, HArr3.out, HZ5.out, HB5.out⟩
              case round =>
                obtain ⟨k', hk', rfl, harr, hz, hbel⟩ := hrel
                by_cases h4 : k' < 4
                · have c1 := harr.cell (4 * t + k') (by rw [fillL_length _ _ (by rw [HSl.out]; omega), HSl.out]; omega)
                  have cf := harr.frozen (4 * t + k')
                  have hadd : ∀ b j, (⟨b, 0, none⟩ : Addr).add j = ⟨b, j, none⟩ := fun b j => by unfold Addr.add; split <;> simp_all
                  have i0 : (0 : Int) ≤ (k' : Int) := by omega
                  have i1 : (k' : Int) < 4 := by omega
                  have m0 : IntKind.i64.wrap (4 * (t : Int)) = 4 * (t : Int) := IntWalk.i64_in _ (by omega)
                  have m1 : IntKind.i64.wrap (4 * (t : Int) + (k' : Int)) = 4 * (t : Int) + (k' : Int) := IntWalk.i64_in _ (by omega)
                  have m2 : IntKind.i64.wrap (8 * (k' : Int)) = 8 * (k' : Int) := IntWalk.i64_in _ (by omega)
                  have m3 : IntKind.i64.wrap (24 - 8 * (k' : Int)) = 24 - 8 * (k' : Int) := IntWalk.i64_in _ (by omega)
                  have m4 : (0 : Int) ≤ 24 - 8 * (k' : Int) := by omega
                  have m5 : (24 - 8 * (k' : Int)).toNat = 24 - 8 * k' := by omega
                  have m6 : 24 - 8 * k' < 32 := by omega
                  have m7 : (4 * (t : Int) + (k' : Int)).toNat = 4 * t + k' := by omega
                  have m8 : (0 : Int) ≤ 4 * (t : Int) + (k' : Int) := by omega
                  have m9 : 4 * (t : Int) + (k' : Int) < 32 := by omega
                  go_wp2_with fail
                  rw [shr_byte]
                  have hf := fillL_set F (4 * t + k') (by rw [HSl.out]; omega)
                  rw [HG4.out k' h8' h4] at hf
                  have hne : w.heap.size ≠ w3.heap.size := by omega
                  refine ⟨⟨k' + 1, by omega, by go_num, ?_, (heap_setCell_other _ _ _ _ hne).trans hz, below_set hbel _ _ _ hw3⟩, by simp [intOf]; omega⟩
                  rw [show 4 * t + (k' + 1) = 4 * t + k' + 1 by omega, ← hf]
                  exact harr.set _ _
                · obtain rfl : k' = 4 := by omega
                  rw [show ((4 : Nat) : Int) = 4 from rfl]
                  have HArr4 := Lib.hid harr
                  have HZ6 := Lib.hid hz
                  have HB6 := Lib.hid hbel
                  clear harr hz hbel
                  go_wp2_with fail
                  go_roundw
                  case rel => exact ⟨t + 1, by omega, by go_num, by rw [show 4 * (t + 1) = 4 * t + 4 by omega]; exact HArr4.out, HZ6.out, HB6.out⟩
                  case measure => simp [intOf]; omega
            · obtain rfl : t = 8 := by omega
              have hfa := fillL_all F
              rw [HSl.out] at hfa
              rw [show 4 * 8 = 32 from rfl, hfa] at harr
              rw [show ((8 : Nat) : Int) = 8 from rfl]
              have harr' : wr.heap[w3.heap.size]? = some (.cells (bvs F).toArray 117 (0, 0)) := harr
              have hz' := hz
              rw [← HZ.out] at hz'
              have HArr4 := Lib.hid harr'
              have HZ6 := Lib.hid hz
              have HZ7 := Lib.hid hz'
              have HB6 := Lib.hid hbel
              clear harr hz hbel hfa harr' hz'
              have hi32 : (Tryd.prog.info? 117).map (·.size) = some ((bvs F).toArray).size := by
                rw [show ((bvs F).toArray).size = 32 by simp [HSl.out]]
                kernel_rfl
              have HI := Lib.hid hi32
              clear hi32
              have hnew := setRow_heap wr w.heap.size _ (bvs F).toArray _ _ HZ7.out
              have hbn := below_setRow HB6.out hbase (bvs F).toArray
              have HNew := Lib.hid hnew
              have HBn := Lib.hid hbn
              clear hnew hbn
              go_wp2_with (first
                | (with_reducible refine wpList_load_row (o := ⟨some 66, _, _, _, _, _⟩) rfl _ _ rfl w3.heap.size rfl _ (bvs F).toArray _ _ HArr4.out Tryd.underlying117 rfl HI.out ?_)
                | (with_reducible refine wpList_store_all (op := ⟨none, .store 117 _ _, _, _, _, _⟩) rfl 117 _ _ rfl w.heap.size _ (bvs F).toArray _ rfl rfl HZ7.out (by simp; exact HSl.out.symm) HI.out (by simpa using bv_one F) ?_))
              refine bodyPost_ret (v := .agg (bvs F).toArray) (results_cell_row rfl _ _ w.heap.size _ _ _ _ rfl HNew.out Tryd.underlying117 rfl HI.out) rfl ⟨by rw [HFF.out], HBn.out⟩
    · have t1 : ((q : Int) == 56) = false := by simp; omega
      have t2 : ((q : Int) != 56) = true := by simp; omega
      go_wp2_with fail
      have hk2 : k < (119 - b.length % 64) % 64 := by have := HRl.out; omega
      refine (take_one wr base (fun k => k = w.heap.size) g _ 0 wr.heap.size rfl hbw HSt1.out (HRo.out.below HB2.out hlt) hlt (by rw [HLn.out]; omega)).mono ?_
      rintro e w2 ⟨rfl, hs2, hb2, hx2⟩
      have hq := restLen_take hs2
      have HS2 := Lib.hid hs2
      have HBB := Lib.hid hb2
      have HX2 := Lib.hid hx2
      have HQ := Lib.hid hq
      clear hs2 hb2 hx2 hq
      go_wp2_with fail
      have e1 : b ++ [128] ++ List.replicate k 0 ++ [0] = b ++ [128] ++ List.replicate (k + 1) (0 : UInt8) := by rw [List.replicate_succ', List.append_assoc]
      refine ⟨⟨k + 1, by omega, by rw [← e1]; exact HS2.out, (HX2.out _ rfl).trans HZ2.out, HB2.out.trans HBB.out⟩, ?_⟩
      have e2 : (b ++ [128] ++ List.replicate k 0 ++ [0]).length = b.length + 2 + k := by rw [List.length_append, HLn.out]; simp; omega
      rw [HQ.out, HQ0.out, e2]
      have := HRl.out
      split <;> split <;> omega
end Go.Proofs.YtpekagkhgegefaaDoor
