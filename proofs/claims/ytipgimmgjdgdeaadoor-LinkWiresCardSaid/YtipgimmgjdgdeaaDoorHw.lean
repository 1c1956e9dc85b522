/- Walks of package hash: turn, piece. -/
import Derived.Test.YtipgimmgjdgdeaaDoorHs
import Derived.Test.YtipgimmgjdgdeaaDoorProg
import Derived.Deep.QuietTactic
import Derived.BigQuiet
import Derived.Deep.RegionHeld3
import Derived.StillTailTactics
import Derived.Deep.MidRow
import Derived.Laws.CopyOwn
set_option linter.unusedVariables false
set_option linter.unusedSimpArgs false
set_option linter.unnecessarySimpa false
namespace Go.Proofs.YtipgimmgjdgdeaaDoor
open Go.RowKit

theorem quiet_add_same {P : Program} {f : FuncId} {args : Array Value} {w : World} {a n : Nat} {v : Value}
    (h : Calls P f args (w.drewN (a + n)) fun e w' => e = .returned v ∧ w' = w.drewN (a + n)) : Calls P f args (w.drewN (a + n)) fun e w'' => e = .returned v ∧ ∃ m, w'' = w.drewN (a + m) :=
  h.mono fun _ _ ⟨he, hm⟩ => ⟨he, n, hm⟩
theorem h32 (n : Nat) (hn : n < 4294967296) : (BitVec.ofInt 32 (n : Int)).toNat = n := by
  rw [BitVec.ofInt_natCast, BitVec.toNat_ofNat]; exact Nat.mod_eq_of_lt (by omega)
theorem or32 (a b : Nat) (ha : a < 4294967296) (hb : b < 4294967296) : bits .or .u32 (a : Int) (b : Int) = ((a ||| b : Nat) : Int) := by
  show IntKind.u32.wrap ((BitVec.ofInt 32 (a : Int) ||| BitVec.ofInt 32 (b : Int)).toNat : Int) = _
  rw [BitVec.toNat_or, h32 a ha, h32 b hb]
  have := Nat.or_lt_two_pow (n := 32) (by omega : a < 2 ^ 32) (by omega : b < 2 ^ 32)
  exact IntWalk.u32_in _ (by omega)
theorem xor32 (a b : Nat) (ha : a < 4294967296) (hb : b < 4294967296) : bits .xor .u32 (a : Int) (b : Int) = ((a ^^^ b : Nat) : Int) := by
  show IntKind.u32.wrap ((BitVec.ofInt 32 (a : Int) ^^^ BitVec.ofInt 32 (b : Int)).toNat : Int) = _
  rw [BitVec.toNat_xor, h32 a ha, h32 b hb]
  have := Nat.xor_lt_two_pow (n := 32) (by omega : a < 2 ^ 32) (by omega : b < 2 ^ 32)
  exact IntWalk.u32_in _ (by omega)
theorem and32 (a b : Nat) (ha : a < 4294967296) (hb : b < 4294967296) : bits .and .u32 (a : Int) (b : Int) = ((a &&& b : Nat) : Int) := by
  show IntKind.u32.wrap ((BitVec.ofInt 32 (a : Int) &&& BitVec.ofInt 32 (b : Int)).toNat : Int) = _
  rw [BitVec.toNat_and, h32 a ha, h32 b hb]
  have := Nat.and_lt_two_pow (n := 32) a (by omega : b < 2 ^ 32)
  exact IntWalk.u32_in _ (by omega)
theorem xor_lt32 (a b : Nat) (ha : a < 4294967296) (hb : b < 4294967296) : a ^^^ b < 4294967296 := Nat.xor_lt_two_pow (n := 32) (by omega) (by omega)
theorem rotr_lt (x n : Nat) (hx : x < 4294967296) : rotr x n < 4294967296 := by
  unfold rotr
  have h1 : x >>> n ≤ x := Nat.shiftRight_le _ _
  exact Nat.or_lt_two_pow (n := 32) (by omega) (by omega)
theorem mask31 : ∀ n : Fin 32, 0 < n.val → bits .and .u64 (IntKind.u64.wrap (-((n.val : Nat) : Int))) 31 = 32 - ((n.val : Nat) : Int) := by decide +kernel
set_option maxHeartbeats 400000 in
theorem rotate_any (x n : Nat) (w : World) (hx : x < 4294967296) (h0 : 0 < n) (hn : n < 32) : Calls Tryd.prog 96 #[.int .u32 x, .int .i64 (-(n : Int))] w (fun e w' => e = .returned (.int .u32 (rotr x n)) ∧ w = w') := by
  have hm := mask31 ⟨n, hn⟩ h0
  simp only at hm
  have k1 : IntKind.u64.wrap (32 - (32 - (n : Int))) = (n : Int) := by rw [show (32 : Int) - (32 - (n : Int)) = n by omega]; exact IntWalk.u64_in _ (by omega)
  have k2 : (0 : Int) ≤ 32 - (n : Int) := by omega
  have k3 : ((32 : Int) - (n : Int)).toNat = 32 - n := by omega
  have k4 : 32 - n < 32 := by omega
  have hr : bits .or .u32 ((x : Int) * 2 ^ (32 - n) % 4294967296) ((x : Int) / 2 ^ n) = ((rotr x n : Nat) : Int) := by
    have e1 : (x : Int) * 2 ^ (32 - n) % 4294967296 = ((x * 2 ^ (32 - n) % 4294967296 : Nat) : Int) := by simp
    have e2 : (x : Int) / 2 ^ n = ((x / 2 ^ n : Nat) : Int) := by simp
    have h2 : x / 2 ^ n ≤ x := Nat.div_le_self _ _
    rw [e1, e2, or32 _ _ (by omega) (by omega)]
    unfold rotr
    rw [Nat.shiftRight_eq_div_pow, Nat.shiftLeft_eq, Nat.or_comm]
  have HR := Lib.hid hr
  clear hr
  go_enter Tryd.func96, Tryd.ntmps96
  go_wp2_with fail
  go_ret
  exact ⟨congrArg (fun z => Ending.returned (Value.int .u32 z)) HR.out, rfl⟩
theorem turn_any (x n : Nat) (w : World) (hx : x < 4294967296) (h0 : 0 < n) (hn : n < 32) : Calls Tryd.prog 95 #[.int .u32 x, .int .i64 n] w (fun e w' => e = .returned (.int .u32 (rotr x n)) ∧ w = w') := by
  have k1 : IntKind.i64.wrap (-(n : Int)) = -(n : Int) := IntWalk.i64_in _ (by omega)
  have HC := Lib.hid (rotate_any x n w hx h0 hn)
  go_enter Tryd.func95, Tryd.ntmps95
  go_wp2_with (go_at_call 96; refine HC.out.mono ?_; rintro e w' ⟨rfl, rfl⟩)
  go_ret
  exact ⟨rfl, rfl⟩
theorem turn_i (x : Nat) (n : Int) (w : World) (hx : x < 4294967296) (h0 : 0 < n) (hn : n < 32) : Calls Tryd.prog 95 #[.int .u32 x, .int .i64 n] w (fun e w' => e = .returned (.int .u32 (rotr x n.toNat)) ∧ w = w') := by
  obtain ⟨m, rfl⟩ := Int.eq_ofNat_of_zero_le (show 0 ≤ n by omega)
  exact turn_any x m w hx (by omega) (by omega)
def oneR (v : V8) (k w : Nat) : Nat := (v.h + ((rotr v.e 6 ^^^ rotr v.e 11) ^^^ rotr v.e 25) + ((v.e &&& v.f) ^^^ ((4294967295 ^^^ v.e) &&& v.g)) + k + w) % 4294967296
def twoR (v : V8) : Nat := (((rotr v.a 2 ^^^ rotr v.a 13) ^^^ rotr v.a 22) + (((v.a &&& v.b) ^^^ (v.a &&& v.c)) ^^^ (v.b &&& v.c))) % 4294967296
theorem stepR_eq (v : V8) (k w : Nat) : stepR v k w = ⟨(oneR v k w + twoR v) % 4294967296, v.a, v.b, v.c, (v.d + oneR v k w) % 4294967296, v.e, v.f, v.g⟩ := rfl
theorem and_lt32 (a b : Nat) (hb : b < 4294967296) : a &&& b < 4294967296 := Nat.lt_of_le_of_lt Nat.and_le_right hb
theorem one_eq (v : V8) (k x : Nat) (he : v.e < 4294967296) (hf : v.f < 4294967296) (hg : v.g < 4294967296) :
    (((v.h : Int) + bits .xor .u32 (bits .xor .u32 ((rotr v.e 6 : Nat) : Int) ((rotr v.e 11 : Nat) : Int)) ((rotr v.e 25 : Nat) : Int) + bits .xor .u32 (bits .and .u32 (v.e : Int) (v.f : Int)) (bits .and .u32 (bits .xor .u32 4294967295 (v.e : Int)) (v.g : Int)) + (k : Int)) % 4294967296 + (x : Int)) % 4294967296 = ((oneR v k x : Nat) : Int) := by
  have l1 := rotr_lt v.e 6 he
  have l2 := rotr_lt v.e 11 he
  have l3 := rotr_lt v.e 25 he
  have e0 : (4294967295 : Int) = ((4294967295 : Nat) : Int) := rfl
  have l4 := xor_lt32 4294967295 v.e (by omega) he
  rw [e0, xor32 _ _ l1 l2, xor32 _ _ (xor_lt32 _ _ l1 l2) l3, and32 _ _ he hf, xor32 4294967295 v.e (by omega) he, and32 _ _ l4 hg, xor32 _ _ (and_lt32 _ _ hf) (and_lt32 _ _ hg)]
  unfold oneR
  omega
theorem two_eq (v : V8) (ha : v.a < 4294967296) (hb : v.b < 4294967296) (hc : v.c < 4294967296) :
    (bits .xor .u32 (bits .xor .u32 ((rotr v.a 2 : Nat) : Int) ((rotr v.a 13 : Nat) : Int)) ((rotr v.a 22 : Nat) : Int) + bits .xor .u32 (bits .xor .u32 (bits .and .u32 (v.a : Int) (v.b : Int)) (bits .and .u32 (v.a : Int) (v.c : Int))) (bits .and .u32 (v.b : Int) (v.c : Int))) % 4294967296 = ((twoR v : Nat) : Int) := by
  have l1 := rotr_lt v.a 2 ha
  have l2 := rotr_lt v.a 13 ha
  have l3 := rotr_lt v.a 22 ha
  rw [xor32 _ _ l1 l2, xor32 _ _ (xor_lt32 _ _ l1 l2) l3, and32 _ _ ha hb, and32 _ _ ha hc, and32 _ _ hb hc, xor32 _ _ (and_lt32 _ _ hb) (and_lt32 _ _ hc), xor32 _ _ (xor_lt32 _ _ (and_lt32 _ _ hb) (and_lt32 _ _ hc)) (and_lt32 _ _ hc)]
  unfold twoR
  omega
theorem mix_eq (a b x y : Nat) (hx : x < 4294967296) (hy : y < 4294967296) :
    ((a : Int) + b + bits .xor .u32 (bits .xor .u32 ((rotr x 7 : Nat) : Int) ((rotr x 18 : Nat) : Int)) ((x : Int) / 8) + bits .xor .u32 (bits .xor .u32 ((rotr y 17 : Nat) : Int) ((rotr y 19 : Nat) : Int)) ((y : Int) / 1024)) % 4294967296 = ((mixW a b x y : Nat) : Int) := by
  have l1 := rotr_lt x 7 hx
  have l2 := rotr_lt x 18 hx
  have l3 := rotr_lt y 17 hy
  have l4 := rotr_lt y 19 hy
  have e1 : (x : Int) / (8 : Int) = ((x >>> 3 : Nat) : Int) := by rw [Nat.shiftRight_eq_div_pow]; omega
  have e2 : (y : Int) / (1024 : Int) = ((y >>> 10 : Nat) : Int) := by rw [Nat.shiftRight_eq_div_pow]; omega
  have b1 : x >>> 3 < 4294967296 := Nat.lt_of_le_of_lt (Nat.shiftRight_le _ _) hx
  have b2 : y >>> 10 < 4294967296 := Nat.lt_of_le_of_lt (Nat.shiftRight_le _ _) hy
  rw [e1, e2, xor32 _ _ l1 l2, xor32 _ _ l3 l4, xor32 _ _ (xor_lt32 _ _ l1 l2) b1, xor32 _ _ (xor_lt32 _ _ l3 l4) b2]
  unfold mixW
  omega
/-! ### The schedule, word by word -/
theorem growW_length : ∀ (n : Nat) (ws : List Nat), (growW n ws).length = ws.length + n
  | 0, ws => rfl
  | n + 1, ws => by
    unfold growW
    rw [growW_length n, List.length_append, List.length_singleton]
    omega
theorem growW_old : ∀ (n : Nat) (ws : List Nat) (k : Nat), k < ws.length → (growW n ws).getD k 0 = ws.getD k 0
  | 0, ws, k, _ => rfl
  | n + 1, ws, k, h => by
    unfold growW
    rw [growW_old n _ k (by rw [List.length_append]; omega)]
    simp only [List.getD_eq_getElem?_getD]
    rw [List.getElem?_append_left h]
theorem growW_new : ∀ (n : Nat) (ws : List Nat) (k : Nat), 16 ≤ ws.length → ws.length ≤ k → k < ws.length + n →
    (growW n ws).getD k 0 = mixW ((growW n ws).getD (k - 16) 0) ((growW n ws).getD (k - 7) 0) ((growW n ws).getD (k - 15) 0) ((growW n ws).getD (k - 2) 0)
  | 0, ws, k, _, h1, h2 => by omega
  | n + 1, ws, k, h16, h1, h2 => by
    unfold growW
    rcases Nat.eq_or_lt_of_le h1 with he | hlt
    · have hl : (ws ++ [nextW ws]).length = ws.length + 1 := by rw [List.length_append, List.length_singleton]
      rw [growW_old n _ k (by omega), growW_old n _ (k - 16) (by omega), growW_old n _ (k - 7) (by omega), growW_old n _ (k - 15) (by omega), growW_old n _ (k - 2) (by omega)]
      simp only [List.getD_eq_getElem?_getD]
      rw [List.getElem?_append_right (by omega), List.getElem?_append_left (by omega), List.getElem?_append_left (by omega), List.getElem?_append_left (by omega), List.getElem?_append_left (by omega), ← he]
      simp [nextW]
    · exact growW_new n _ k (by rw [List.length_append]; omega) (by rw [List.length_append, List.length_singleton]; omega) (by rw [List.length_append, List.length_singleton]; omega)
theorem sched_length (p : List Nat) : (sched p).length = 64 := by unfold sched; rw [growW_length]; simp
theorem sched_first (p : List Nat) (t : Nat) (h : t < 16) : (sched p).getD t 0 = wordAt p t := by
  unfold sched
  rw [growW_old _ _ t (by simpa using h), List.getD_eq_getElem?_getD, List.getElem?_map, List.getElem?_range h]
  rfl
theorem sched_next (p : List Nat) (t : Nat) (h : 16 ≤ t) (h2 : t < 64) : (sched p).getD t 0 = mixW ((sched p).getD (t - 16) 0) ((sched p).getD (t - 7) 0) ((sched p).getD (t - 15) 0) ((sched p).getD (t - 2) 0) := by
  unfold sched
  exact growW_new 48 _ t (by simp) (by simpa using h) (by simpa using h2)

/-! ### An array of words in a block of its own -/
def u32s (xs : List Nat) : List Value := xs.map fun x : Nat => Value.int .u32 (x : Int)
def ArrAt (w : World) (H : Nat) (T : TypeId) (xs : List Nat) : Prop := w.heap[H]? = some (.cells (u32s xs).toArray T (0, 0))
theorem ArrAt.lt {w : World} {H : Nat} {T : TypeId} {xs : List Nat} (h : ArrAt w H T xs) : H < w.heap.size := (Array.getElem?_eq_some_iff.1 h).1
theorem ArrAt.cell {w : World} {H : Nat} {T : TypeId} {xs : List Nat} (h : ArrAt w H T xs) (k : Nat) (hk : k < xs.length) : w.cell? ⟨H, k, none⟩ = some (.int .u32 ((xs.getD k 0 : Nat) : Int)) := by
  have h' : w.heap[H]? = _ := h
  simp [World.cell?, h', u32s, hk]
theorem ArrAt.frozen {w : World} {H : Nat} {T : TypeId} {xs : List Nat} (h : ArrAt w H T xs) (k : Nat) : w.frozen? ⟨H, k, none⟩ = false := by
  have h' : w.heap[H]? = _ := h
  simp [World.frozen?, h']
theorem ArrAt.set {w : World} {H : Nat} {T : TypeId} {xs : List Nat} (h : ArrAt w H T xs) (k y : Nat) : ArrAt (w.setCell ⟨H, k, none⟩ (.int .u32 (y : Int))) H T (xs.set k y) := by
  have h1 := heap_setCell_same w H k _ T (.int .u32 (y : Int)) h
  unfold ArrAt
  rw [h1]
  simp [u32s, List.map_set]
theorem ArrAt.move {w w' : World} {H : Nat} {T : TypeId} {xs : List Nat} (h : ArrAt w H T xs) (e : w'.heap[H]? = w.heap[H]?) : ArrAt w' H T xs := e.trans h
theorem keep3 {w0 W : World} {H t i j : Nat} {va vb vt v : Value} (hh : W.heap = w0.heap) (c2 : w0.cell? ⟨H, i, none⟩ = some va) (c3 : w0.cell? ⟨H, j, none⟩ = some vb) (c4 : w0.cell? ⟨H, t, none⟩ = some vt) (hf : w0.frozen? ⟨H, t, none⟩ = false) (hi : t ≠ i) (hj : t ≠ j) :
    (W.setCell ⟨H, t, none⟩ v).cell? ⟨H, i, none⟩ = some va ∧ (W.setCell ⟨H, t, none⟩ v).cell? ⟨H, j, none⟩ = some vb ∧ (∃ old, (W.setCell ⟨H, t, none⟩ v).cell? ⟨H, t, none⟩ = some old) ∧ (W.setCell ⟨H, t, none⟩ v).frozen? ⟨H, t, none⟩ = false := by
  have e : ∀ a, W.cell? a = w0.cell? a := fun a => World.cell?_of_block (by rw [hh])
  have ef : ∀ a, W.frozen? a = w0.frozen? a := fun a => World.frozen?_of_block (by rw [hh])
  refine ⟨?_, ?_, ⟨v, ?_⟩, ?_⟩
  · rw [World.cell?_setCell_other _ _ _ _ (fun e => hi (congrArg Addr.off e)), e, c2]
  · rw [World.cell?_setCell_other _ _ _ _ (fun e => hj (congrArg Addr.off e)), e, c3]
  · exact World.cell?_setCell_same _ _ _ ((e _).trans c4)
  · rw [World.frozen?_setCell, ef, hf]
theorem below_set {B : Nat} {w W : World} (h : Below B w W) (H k : Nat) (v : Value) (hH : B ≤ H) : Below B w (W.setCell ⟨H, k, none⟩ v) := h.setCell hH v
theorem ArrAt.eight {w : World} {H : Nat} {T : TypeId} {v : V8} (h : ArrAt w H T v.list) :
    w.cell? ⟨H, 0, none⟩ = some (.int .u32 (v.a : Int)) ∧ w.cell? ⟨H, 1, none⟩ = some (.int .u32 (v.b : Int)) ∧ w.cell? ⟨H, 2, none⟩ = some (.int .u32 (v.c : Int)) ∧ w.cell? ⟨H, 3, none⟩ = some (.int .u32 (v.d : Int)) ∧
    w.cell? ⟨H, 4, none⟩ = some (.int .u32 (v.e : Int)) ∧ w.cell? ⟨H, 5, none⟩ = some (.int .u32 (v.f : Int)) ∧ w.cell? ⟨H, 6, none⟩ = some (.int .u32 (v.g : Int)) ∧ w.cell? ⟨H, 7, none⟩ = some (.int .u32 (v.h : Int)) ∧ ∀ k, w.frozen? ⟨H, k, none⟩ = false := by
  have h' : w.heap[H]? = _ := h
  refine ⟨?_, ?_, ?_, ?_, ?_, ?_, ?_, ?_, fun k => ?_⟩ <;> simp [World.cell?, World.frozen?, h', u32s, V8.list]
theorem ArrAt.src {w : World} {H : Nat} {T : TypeId} {xs : List Nat} (h : ArrAt w H T xs) (n : Nat) : ∀ (j : Nat) (v : Value), (u32s (xs.take n))[j]? = some v → w.cell? ((⟨H, 0, none⟩ : Addr).add j) = some v := fun j v hj => by
  have hadd : (⟨H, 0, none⟩ : Addr).add j = ⟨H, j, none⟩ := by unfold Addr.add; split <;> simp_all
  have hj2 : j < n ∧ xs[j]?.map (fun x : Nat => Value.int .u32 (x : Int)) = some v := by
    simp only [u32s, List.getElem?_map] at hj
    rw [List.getElem?_take] at hj
    split at hj
    · exact ⟨‹_›, hj⟩
    · cases hj
  obtain ⟨x, hx, rfl⟩ := Option.map_eq_some_iff.1 hj2.2
  have hl : j < xs.length := (List.getElem?_eq_some_iff.1 hx).1
  rw [hadd, h.cell j hl]
  simp [List.getD_eq_getElem?_getD, hx]
/-- copy(v[1:], v[:7]). -/
theorem copy_shift {P : Program} {W : World} {ops : Array Oper} {rest : List Oper} {o : Oper} {a : Act} {Q : Exit → Act → World → Prop} (hgd : o.guard = none) (d s : Operand) (dT e T : TypeId)
    (ho : o.op = .call { callee := .builtin .copy, args := #[d, s], argTypes := #[dT, dT] }) (hu : P.underlying dT = some (.slice e)) (hsz : (P.info? e).map (·.size) = some 1) (H c1 c2 : Nat)
    (hd : a.eval d = .slice (some ⟨H, 1, none⟩) 7 c1) (hs : a.eval s = .slice (some ⟨H, 0, none⟩) 7 c2) (u : V8) (hA : ArrAt W H T u.list)
    (h : ∀ w', ArrAt w' H T [u.a, u.a, u.b, u.c, u.d, u.e, u.f, u.g] → (∀ B w0, B ≤ H → Below B w0 W → Below B w0 w') → (∀ k, k ≠ H → w'.heap[k]? = W.heap[k]?) → wpList P ops Q rest (a.put o.dst (goInt 7)) w') : wpList P ops Q (o :: rest) a W := by
  have hA' : W.heap[H]? = _ := hA
  refine wpList_copy_own hgd d s dT dT ho e hu hsz H 1 7 c1 ⟨H, 0, none⟩ 7 c2 hd hs _ T hA' (u32s (u.list.take 7)) rfl (hA.src 7) (show 1 + 7 ≤ 8 by omega) (fun v hv => ?_) ?_
  · obtain ⟨x, _, rfl⟩ := List.mem_map.1 hv
    rfl
  · refine h _ ?_ (fun B w0 hB hb => below_setRow hb hB _) (fun k hk => setRow_other _ _ _ _ hk)
    unfold ArrAt
    rw [setRow_heap _ _ _ _ _ _ hA']
    rfl
/-- The state of a digest in a block of its own. -/
def StAt (w : World) (g : Nat) (v : V8) (rest : Value) (n : Nat) : Prop := w.heap[g]? = some (.cells (u32s v.list ++ [rest, .int .u64 (n : Int)]).toArray 155 (0, 0))
theorem StAt.move {w w' : World} {g : Nat} {v : V8} {rest : Value} {n : Nat} (h : StAt w g v rest n) (e : w'.heap[g]? = w.heap[g]?) : StAt w' g v rest n := e.trans h
theorem StAt.cells {w : World} {g : Nat} {v : V8} {rest : Value} {n : Nat} (h : StAt w g v rest n) :
    w.cell? ⟨g, 0, none⟩ = some (.int .u32 (v.a : Int)) ∧ w.cell? ⟨g, 1, none⟩ = some (.int .u32 (v.b : Int)) ∧ w.cell? ⟨g, 2, none⟩ = some (.int .u32 (v.c : Int)) ∧ w.cell? ⟨g, 3, none⟩ = some (.int .u32 (v.d : Int)) ∧
    w.cell? ⟨g, 4, none⟩ = some (.int .u32 (v.e : Int)) ∧ w.cell? ⟨g, 5, none⟩ = some (.int .u32 (v.f : Int)) ∧ w.cell? ⟨g, 6, none⟩ = some (.int .u32 (v.g : Int)) ∧ w.cell? ⟨g, 7, none⟩ = some (.int .u32 (v.h : Int)) ∧
    w.cell? ⟨g, 8, none⟩ = some rest ∧ w.cell? ⟨g, 9, none⟩ = some (.int .u64 (n : Int)) ∧ ∀ k, w.frozen? ⟨g, k, none⟩ = false := by
  have h' : w.heap[g]? = _ := h
  refine ⟨?_, ?_, ?_, ?_, ?_, ?_, ?_, ?_, ?_, ?_, fun k => ?_⟩ <;> simp [World.cell?, World.frozen?, h', u32s, V8.list]
/-- The words of the rounds lie in their variable. -/
structure RoundAt (w : World) : Prop where
  lt : 19 < w.heap.size
  cells : w.rangeAt 19 0 (u32s roundWords)
theorem RoundAt.below {B : Nat} {w w' : World} (h : RoundAt w) (hb : Below B w w') (hB : 19 < B) : RoundAt w' := ⟨Nat.lt_of_lt_of_le h.lt hb.size, fun j v hj => (hb.cell (p := ⟨19, 0 + j, none⟩) hB).trans (h.cells j v hj)⟩
def natBytes (p : Bs) : List Nat := p.map UInt8.toNat
theorem word_or (a b c d : Nat) (ha : a < 256) (hb : b < 256) (hc : c < 256) (hd : d < 256) :
    bits .or .u32 (bits .or .u32 (bits .or .u32 ((a : Int) * 16777216) ((b : Int) * 65536)) ((c : Int) * 256)) (d : Int) = ((((a * 256 + b) * 256 + c) * 256 + d : Nat) : Int) := by
  have e1 : a * 16777216 ||| b * 65536 = a * 16777216 + b * 65536 := by
    have := (Nat.two_pow_add_eq_or_of_lt (i := 24) (b := b * 65536) (by omega) a).symm
    simpa [Nat.mul_comm] using this
  have e2 : (a * 16777216 + b * 65536) ||| c * 256 = a * 16777216 + b * 65536 + c * 256 := by
    have := (Nat.two_pow_add_eq_or_of_lt (i := 16) (b := c * 256) (by omega) (a * 256 + b)).symm
    rw [show a * 16777216 + b * 65536 = 2 ^ 16 * (a * 256 + b) by omega]
    exact this
  have e3 : (a * 16777216 + b * 65536 + c * 256) ||| d = a * 16777216 + b * 65536 + c * 256 + d := by
    have := (Nat.two_pow_add_eq_or_of_lt (i := 8) (b := d) (by omega) ((a * 256 + b) * 256 + c)).symm
    rw [show a * 16777216 + b * 65536 + c * 256 = 2 ^ 8 * ((a * 256 + b) * 256 + c) by omega]
    exact this
  rw [show (a : Int) * 16777216 = ((a * 16777216 : Nat) : Int) by simp, show (b : Int) * 65536 = ((b * 65536 : Nat) : Int) by simp, show (c : Int) * 256 = ((c * 256 : Nat) : Int) by simp]
  rw [or32 _ _ (by omega) (by omega), e1, or32 _ _ (by omega) (by omega), e2, or32 _ _ (by omega) (by omega), e3]
  omega
theorem byte_at {ok : Nat → Prop} {w : World} {A : Option Addr} {b : Bs} (h : RdC ok w A (bvs b)) (k : Nat) (hk : k < b.length) :
    ∃ ad, A = some ad ∧ ok ad.block ∧ w.cell? (ad.add k) = some (.int .u8 (((natBytes b).getD k 0 : Nat) : Int)) ∧ (natBytes b).getD k 0 < 256 := by
  obtain ⟨ad, e, hb, hc⟩ := h (by intro e; have : b = [] := List.map_eq_nil_iff.1 e; subst this; simp at hk)
  have hx : (natBytes b).getD k 0 = b[k].toNat := by simp [natBytes, hk]
  rw [hx]
  exact ⟨ad, e, hb, hc k _ (by simp [bvs, bv, hk]), b[k].toNat_lt⟩
theorem u8list_lt (p : Bs) (k : Nat) : (natBytes p).getD k 0 < 256 := by
  unfold natBytes
  rw [List.getD_eq_getElem?_getD, List.getElem?_map]
  cases p[k]? with
  | none => simp
  | some x => exact x.toNat_lt
theorem sched_lt (p : Bs) : ∀ k, (sched (natBytes p)).getD k 0 < 4294967296 := fun k => by
  rcases Nat.lt_or_ge k 16 with h | h
  · rw [sched_first _ k h]
    unfold wordAt
    have := u8list_lt p (4 * k)
    have := u8list_lt p (4 * k + 1)
    have := u8list_lt p (4 * k + 2)
    have := u8list_lt p (4 * k + 3)
    omega
  · rcases Nat.lt_or_ge k 64 with h2 | h2
    · rw [sched_next _ k h h2]
      exact Nat.mod_lt _ (by omega)
    · rw [List.getD_eq_getElem?_getD, List.getElem?_eq_none (by rw [sched_length]; exact h2)]
      simp
def arrW (p : List Nat) (t : Nat) : List Nat := (sched p).take t ++ List.replicate (64 - t) 0
theorem arrW_set (p : List Nat) (t y : Nat) (h : t < 64) (hy : (sched p).getD t 0 = y) : (arrW p t).set t y = arrW p (t + 1) := by
  have hl := sched_length p
  have e1 : (sched p).take (t + 1) = (sched p).take t ++ [y] := by
    rw [List.take_succ_eq_append_getElem (by omega), ← hy]
    simp [List.getD_eq_getElem?_getD, List.getElem?_eq_getElem (show t < (sched p).length by omega)]
  unfold arrW
  rw [e1, List.set_append_right _ _ (by rw [List.length_take]; omega), List.length_take, hl, show 64 - t = (64 - (t + 1)) + 1 from by omega, List.replicate_succ, show t - min t 64 = 0 by omega, List.set_cons_zero, List.append_assoc]
  rfl
theorem arrW_old (p : List Nat) (t k : Nat) (h : k < t) (ht : t ≤ 64) : (arrW p t).getD k 0 = (sched p).getD k 0 := by
  have hl := sched_length p
  unfold arrW
  simp only [List.getD_eq_getElem?_getD]
  rw [List.getElem?_append_left (by rw [List.length_take]; omega), List.getElem?_take_of_lt h]
theorem arrW_all (p : List Nat) : arrW p 64 = sched p := by
  unfold arrW
  rw [List.take_of_length_le (by rw [sched_length]; omega)]
  simp
/-! ### The rounds -/
def V8.ok (v : V8) : Prop := v.a < 4294967296 ∧ v.b < 4294967296 ∧ v.c < 4294967296 ∧ v.d < 4294967296 ∧ v.e < 4294967296 ∧ v.f < 4294967296 ∧ v.g < 4294967296 ∧ v.h < 4294967296
theorem stepR_ok (v : V8) (k w : Nat) (h : v.ok) : (stepR v k w).ok := by
  obtain ⟨h1, h2, h3, h4, h5, h6, h7, h8⟩ := h
  exact ⟨Nat.mod_lt _ (by omega), h1, h2, h3, Nat.mod_lt _ (by omega), h5, h6, h7⟩
theorem roundsR_ok : ∀ (ks ws : List Nat) (v : V8), v.ok → (roundsR v ks ws).ok
  | [], _, v, h => by unfold roundsR; exact h
  | _ :: _, [], v, h => by unfold roundsR; exact h
  | k :: ks, w :: ws, v, h => by unfold roundsR; exact roundsR_ok ks ws _ (stepR_ok v k w h)
theorem roundsR_snoc : ∀ (t : Nat) (ks ws : List Nat) (v : V8), t < ks.length → t < ws.length →
    roundsR v (ks.take (t + 1)) (ws.take (t + 1)) = stepR (roundsR v (ks.take t) (ws.take t)) (ks.getD t 0) (ws.getD t 0)
  | t, [], _, v, h, _ => by simp at h
  | t, _ :: _, [], v, _, h => by simp at h
  | 0, k :: ks, w :: ws, v, _, _ => by simp [roundsR]
  | t + 1, k :: ks, w :: ws, v, h1, h2 => by
    have := roundsR_snoc t ks ws (stepR v k w) (by simpa using h1) (by simpa using h2)
    simpa [roundsR] using this
theorem add_ok (u v : V8) : (u.add v).ok := ⟨Nat.mod_lt _ (by omega), Nat.mod_lt _ (by omega), Nat.mod_lt _ (by omega), Nat.mod_lt _ (by omega), Nat.mod_lt _ (by omega), Nat.mod_lt _ (by omega), Nat.mod_lt _ (by omega), Nat.mod_lt _ (by omega)⟩
theorem pieceV_ok (v : V8) (p : List Nat) : (pieceV v p).ok := add_ok _ _
theorem first_ok : V8.first.ok := by unfold V8.ok V8.first; decide
/-- The first t words are sums. -/
def sumL (xs ys : List Nat) (t : Nat) : List Nat := (List.zipWith (fun a b => (a + b) % 4294967296) xs ys).take t ++ xs.drop t
theorem sumL_set (xs ys : List Nat) (t : Nat) (h1 : t < xs.length) (h2 : t < ys.length) : (sumL xs ys t).set t ((xs.getD t 0 + ys.getD t 0) % 4294967296) = sumL xs ys (t + 1) := by
  have hz : (List.zipWith (fun a b => (a + b) % 4294967296) xs ys).length = min xs.length ys.length := List.length_zipWith
  unfold sumL
  rw [List.set_append_right _ _ (by rw [List.length_take]; omega), List.length_take, hz, show t - min t (min xs.length ys.length) = 0 by omega]
  rw [List.take_succ_eq_append_getElem (by rw [hz]; omega), List.drop_eq_getElem_cons h1, List.set_cons_zero, List.append_assoc]
  simp [h1, h2]
theorem sumL_get (xs ys : List Nat) (t : Nat) (h1 : t < xs.length) (h2 : t < ys.length) : (sumL xs ys t).getD t 0 = xs.getD t 0 := by
  have hz : (List.zipWith (fun a b => (a + b) % 4294967296) xs ys).length = min xs.length ys.length := List.length_zipWith
  unfold sumL
  simp only [List.getD_eq_getElem?_getD]
  rw [List.getElem?_append_right (by rw [List.length_take]; omega), List.length_take, hz, show t - min t (min xs.length ys.length) = 0 by omega, List.getElem?_drop]
  simp
theorem sumL_all (u v : V8) : sumL u.list v.list 8 = (u.add v).list := rfl
theorem sumL_none (xs ys : List Nat) : sumL xs ys 0 = xs := by simp [sumL]
theorem sumL_length (xs ys : List Nat) (t : Nat) (h : xs.length = ys.length) (ht : t ≤ xs.length) : (sumL xs ys t).length = xs.length := by
  unfold sumL
  rw [List.length_append, List.length_take, List.length_zipWith, List.length_drop]
  omega
theorem V8.list_length (v : V8) : v.list.length = 8 := rfl
theorem sumV_length (u v : V8) (t : Nat) (ht : t ≤ 8) : (sumL u.list v.list t).length = 8 := by
  rw [sumL_length _ _ _ (by rw [V8.list_length, V8.list_length]) (by rw [V8.list_length]; exact ht), V8.list_length]
theorem sumV_get (u v : V8) (t : Nat) (ht : t < 8) : (sumL u.list v.list t).getD t 0 = u.list.getD t 0 := sumL_get _ _ t (by rw [V8.list_length]; exact ht) (by rw [V8.list_length]; exact ht)
theorem sumV_set (u v : V8) (t : Nat) (ht : t < 8) : (sumL u.list v.list t).set t ((u.list.getD t 0 + v.list.getD t 0) % 4294967296) = sumL u.list v.list (t + 1) := sumL_set _ _ t (by rw [V8.list_length]; exact ht) (by rw [V8.list_length]; exact ht)
/-- The state's words as a list. -/
def StL (w : World) (g : Nat) (L : List Nat) (rest : Value) (n : Nat) : Prop := w.heap[g]? = some (.cells (u32s L ++ [rest, .int .u64 (n : Int)]).toArray 155 (0, 0))
theorem StL.set {w : World} {g : Nat} {L : List Nat} {rest : Value} {n : Nat} (h : StL w g L rest n) (t y : Nat) (ht : t < L.length) : StL (w.setCell ⟨g, t, none⟩ (.int .u32 (y : Int))) g (L.set t y) rest n := by
  have h1 := heap_setCell_same w g t _ 155 (.int .u32 (y : Int)) h
  unfold StL
  rw [h1]
  congr 2
  rw [show u32s (L.set t y) = (u32s L).set t (.int .u32 (y : Int)) by simp [u32s, List.map_set]]
  rw [← List.set_append_left _ _ (by simpa [u32s] using ht)]
  simp
theorem StL.cell {w : World} {g : Nat} {L : List Nat} {rest : Value} {n : Nat} (h : StL w g L rest n) (t : Nat) (ht : t < L.length) : w.cell? ⟨g, t, none⟩ = some (.int .u32 ((L.getD t 0 : Nat) : Int)) := by
  have h' : w.heap[g]? = _ := h
  simp only [World.cell?, h']
  simp only [List.getElem?_toArray]
  rw [List.getElem?_append_left (by simpa [u32s] using ht)]
  simp [u32s, ht]
theorem StL.frozen {w : World} {g : Nat} {L : List Nat} {rest : Value} {n : Nat} (h : StL w g L rest n) (t : Nat) : w.frozen? ⟨g, t, none⟩ = false := by
  have h' : w.heap[g]? = _ := h
  simp [World.frozen?, h']
theorem StL.move {w w' : World} {g : Nat} {L : List Nat} {rest : Value} {n : Nat} (h : StL w g L rest n) (e : w'.heap[g]? = w.heap[g]?) : StL w' g L rest n := e.trans h
theorem only_setCell {a w : World} {g : Nat} (h : a.grownBy w (some g)) (k : Nat) (u : Value) : a.grownBy (w.setCell ⟨g, k, none⟩ u) (some g) :=
  ⟨h.os, h.tape, h.output, by simpa [World.setCell] using h.size, fun i hi hne => (heap_setCell_other _ _ _ _ (fun e => hne (congrArg some e))).trans (h.block i hi hne)⟩
/-- What piece answers. -/
def PieceP (w : World) (v : V8) (g : Nat) (p : Bs) (rest : Value) (n : Nat) (e : Ending) (w' : World) : Prop := e = .returned (.tuple #[]) ∧ StAt w' g (pieceV v (natBytes p)) rest n ∧ w.grownBy w' (some g)
end Go.Proofs.YtipgimmgjdgdeaaDoor
