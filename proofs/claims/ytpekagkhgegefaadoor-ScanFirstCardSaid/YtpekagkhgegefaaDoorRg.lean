/- Walk of the reference's Digest (layer 2). -/
import Derived.Test.YtpekagkhgegefaaDoorBuf
import Derived.Test.YtpekagkhgegefaaDoorRd
import Derived.Test.YtpekagkhgegefaaDoorHu
import Derived.Test.YtpekagkhgegefaaDoorNm
set_option linter.unusedVariables false
set_option linter.unusedSimpArgs false
set_option linter.unnecessarySimpa false
namespace Go.Proofs.YtpekagkhgegefaaDoor
open Go.RowKit

theorem append_keeps {P : Program} {w : World} (base : Nat) (t ty e : TypeId) (i : TypeInfo) (z : Value) (size bytes : Nat) (ht : P.underlying t = some (.slice e)) (hi : P.info? e = some i) (hz : i.zero = some z)
    (hsize : i.size = size) (hby : i.bytes = bytes) (g cap n : Nat) (xs : List Value) (hown : w.ownsRow base e size (.slice (some ⟨g, 0, none⟩) n cap) n xs)
    (a : Addr) (m c : Nat) (news : List Value) (hl : news.length = m * size) (hnews : ∀ j u, news[j]? = some u → w.cell? (a.add j) = some u) (h1 : ∀ u ∈ news, u.oneCell' = true)
    (h63 : n + m ≤ maxLen) (hbytes : (n + m) * bytes ≤ 140737488355328) {v' : Value} {w' : World}
    (hr : (Builtin.append_ #[t, t] ty #[.slice (some ⟨g, 0, none⟩) n cap, .slice (some a) m c]).run P w = .ok v' w') (hown' : w'.ownsRow base e size v' (n + m) (xs ++ news)) :
    ∀ j u, xs[j]? = some u → w'.cell? ((⟨g, 0, none⟩ : Addr).add j) = some u := by
  intro j u hj
  subst hsize
  subst hby
  have hcells := hown.cells (g := g) rfl
  rcases hown.2 with ⟨hv, _⟩ | ⟨g', cap', cur, hv, hbg, hg, hnc, hcm, hcs, htake⟩
  · cases hv
  · cases hv
    by_cases hroom : n + m ≤ cap
    · have hfit : n * i.size + news.length ≤ cur.size := by rw [hl, hcs, ← Nat.add_mul]; exact Nat.mul_le_mul_right _ hroom
      have hr2 := run_append_room (P := P) w t ty e i ht hi g n cap cur hg a m c news hl hnews h1 hroom hfit
      rw [hr] at hr2
      injection hr2 with e1 e2
      subst e1
      refine hown'.cells (g := g) rfl j u ?_
      rw [List.getElem?_append_left (List.getElem?_eq_some_iff.1 hj).1]
      exact hj
    · have hr2 := run_append_grow (P := P) w t ty e i z ht hi hz ⟨g, 0, none⟩ n cap xs hown.1 hcells a m c news hl hnews (by omega) (by simp only [maxLen] at h63; omega) (growslice_fits (by omega) hbytes)
      rw [hr] at hr2
      injection hr2 with e1 e2
      subst e2
      have hlt : g < w.heap.size := (Array.getElem?_eq_some_iff.1 hg).1
      refine (World.cell?_of_block (w := w) ?_).trans (hcells j u hj)
      rw [add_block]
      exact heap_alloc_old w.drew _ hlt
theorem wp_appK {P : Program} {w : World} {o : Oper} {a : Act} {K : Act → World → Prop} {Q : Exit → Act → World → Prop} {ok : Nat → Prop} (base : Nat) (s x : Operand) (t e : TypeId) (i : TypeInfo) (z : Value) (size bytes : Nat)
    (ho : o.op = .call { callee := .builtin .append, args := #[s, x], argTypes := #[t, t] }) (ht : P.underlying t = some (.slice e)) (hi : P.info? e = some i) (hz : i.zero = some z)
    (hsize : i.size = size) (hby : i.bytes = bytes) (hzs : z.cells.size = size) (hs0 : 0 < size) (hb0 : 0 < bytes) (g cap n : Nat) (xs : List Value) (hs : a.eval s = .slice (some ⟨g, 0, none⟩) n cap) (hown : w.ownsRow base e size (.slice (some ⟨g, 0, none⟩) n cap) n xs)
    (ad : Addr) (m c : Nat) (ys : List Value) (hx : a.eval x = .slice (some ad) m c) (hm : ys.length = m * size) (hm0 : 0 < ys.length) (hR : RdC ok w (some ad) ys) (h1 : ∀ u ∈ ys, u.oneCell' = true) (hl : (n + m) * bytes ≤ 140737488355328) (hbase : base ≤ w.heap.size)
    (h : ∀ v' w', w'.ownsRow base e size v' (n + m) (xs ++ ys) → Grew w (.slice (some ⟨g, 0, none⟩) n cap) w' v' → (∀ j u, xs[j]? = some u → w'.cell? ((⟨g, 0, none⟩ : Addr).add j) = some u) → K (a.put o.dst v') w') : o.wp P a w K Q := by
  obtain ⟨v', w', hr, h2, h3⟩ := run_appS (P := P) w base t o.type e i z size bytes ht hi hz hsize hby hzs hs0 hb0 _ n xs hown (some ad) m c ys hm hR h1 hl hbase
  have hn : n + m ≤ 140737488355328 := Nat.le_trans (Nat.le_mul_of_pos_right _ hb0) hl
  have hk := append_keeps (P := P) base t o.type e i z size bytes ht hi hz hsize hby g cap n xs hown ad m c ys hm (fun j u hu => by
    obtain ⟨ad', e, _, hc⟩ := hR (by intro e; rw [e] at hm0; simp at hm0)
    injection e with e
    subst e
    exact hc j u hu) h1 (by unfold maxLen; omega) hl hr h2
  unfold Oper.wp execOp
  simp only [ho, resolve, invoke, builtin, Sem.run_bind, Sem.run_pure, Result.andThen_ok, List.map_toArray, List.map_cons, List.map_nil, hs, hx, hr]
  exact h v' w' h2 h3 hk
theorem step_appK {P : Program} {w : World} {ops : Array Oper} {o : Oper} {a : Act} {K : Act → World → Prop} {Q : Exit → Act → World → Prop} {E : Prop} {ok : Nat → Prop} (base : Nat) (s x : Operand) (t e : TypeId) (i : TypeInfo) (z : Value) (size bytes : Nat) (hgd : o.guard = none)
    (ho : o.op = .call { callee := .builtin .append, args := #[s, x], argTypes := #[t, t] }) (ht : P.underlying t = some (.slice e)) (hi : P.info? e = some i) (hz : i.zero = some z)
    (hsize : i.size = size) (hby : i.bytes = bytes) (hzs : z.cells.size = size) (hs0 : 0 < size) (hb0 : 0 < bytes) (g cap n : Nat) (xs : List Value) (hs : a.eval s = .slice (some ⟨g, 0, none⟩) n cap) (hown : w.ownsRow base e size (.slice (some ⟨g, 0, none⟩) n cap) n xs)
    (ad : Addr) (m c : Nat) (ys : List Value) (hx : a.eval x = .slice (some ad) m c) (hm : ys.length = m * size) (hm0 : 0 < ys.length) (hR : RdC ok w (some ad) ys) (h1 : ∀ u ∈ ys, u.oneCell' = true) (hl : (n + m) * bytes ≤ 140737488355328) (hbase : base ≤ w.heap.size)
    (h : ∀ v' w', w'.ownsRow base e size v' (n + m) (xs ++ ys) → Grew w (.slice (some ⟨g, 0, none⟩) n cap) w' v' → (∀ j u, xs[j]? = some u → w'.cell? ((⟨g, 0, none⟩ : Addr).add j) = some u) → K (a.put o.dst v') w') : if Region.wanted o (yielded ops a.tmps) = true then Oper.wp P o a w K Q else E := by
  rw [if_pos (by simp [Region.wanted, hgd])]
  exact wp_appK base s x t e i z size bytes ho ht hi hz hsize hby hzs hs0 hb0 g cap n xs hs hown ad m c ys hx hm hm0 hR h1 hl hbase h
end Go.Proofs.YtpekagkhgegefaaDoor
/- An append to an own row: the old row's cells still read the same at the old address. -/
set_option linter.unusedVariables false
set_option linter.unusedSimpArgs false
set_option linter.unnecessarySimpa false
namespace Go.Proofs.YtpekagkhgegefaaDoor
open Go.RowKit

theorem right_any (x n : Nat) (w : World) (hx : x < 4294967296) (h0 : 0 < n) (hn : n < 32) : Calls Tryd.prog 55 #[.int .u32 x, .int .u64 n] w (fun e w' => e = .returned (.int .u32 (rotr x n)) ∧ w = w') := by
  have m1 : IntKind.u64.wrap (32 - (n : Int)) = 32 - (n : Int) := IntWalk.u64_in _ (by omega)
  have m2 : (32 - (n : Int)).toNat = 32 - n := by omega
  have m3 : (0 : Int) ≤ 32 - (n : Int) := by omega
  have m4 : 32 - n < 32 := by omega
  have hr : bits .or .u32 ((x : Int) / 2 ^ n) ((x : Int) * 2 ^ (32 - n) % 4294967296) = ((rotr x n : Nat) : Int) := by
    have e1 : (x : Int) * 2 ^ (32 - n) % 4294967296 = ((x * 2 ^ (32 - n) % 4294967296 : Nat) : Int) := by simp
    have e2 : (x : Int) / 2 ^ n = ((x / 2 ^ n : Nat) : Int) := by simp
    have h2 : x / 2 ^ n ≤ x := Nat.div_le_self _ _
    rw [e1, e2, or32 _ _ (by omega) (by omega)]
    unfold rotr
    rw [Nat.shiftRight_eq_div_pow, Nat.shiftLeft_eq]
  have HR := Lib.hid hr
  clear hr
  go_enter Tryd.func55, Tryd.ntmps55
  go_wp2_with fail
  go_ret
  exact ⟨congrArg (fun z => Ending.returned (Value.int .u32 z)) HR.out, rfl⟩
theorem right_i (x : Nat) (n : Int) (w : World) (hx : x < 4294967296) (h0 : 0 < n) (hn : n < 32) : Calls Tryd.prog 55 #[.int .u32 x, .int .u64 n] w (fun e w' => e = .returned (.int .u32 (rotr x n.toNat)) ∧ w' = w) := by
  obtain ⟨m, rfl⟩ := Int.eq_ofNat_of_zero_le (show 0 ≤ n by omega)
  exact (right_any x m w hx (by omega) (by omega)).mono fun _ _ h => ⟨h.1, h.2.symm⟩
end Go.Proofs.YtpekagkhgegefaaDoor
/- Walks: right, Join of the reference (layer 2); few of the law. -/
set_option linter.unusedVariables false
set_option linter.unusedSimpArgs false
set_option linter.unnecessarySimpa false
namespace Go.Proofs.YtpekagkhgegefaaDoor
open Go.RowKit

def lenV : Value → Nat
  | .slice _ n _ => n
  | _ => 0
def to56 (n : Nat) : Nat := if n % 64 ≤ 56 then 56 - n % 64 else 120 - n % 64
theorem own_like {w w' : World} {o : Obj} {base n size : Nat} {e : TypeId} {v : Value} {xs : List Value} (hh : w'.heap = (w.alloc o).heap) (h : w.ownsRow base e size v n xs) : w'.ownsRow base e size v n xs := by
  have h2 := h.alloc o
  unfold World.ownsRow at h2 ⊢
  rw [hh]
  exact h2
/-- Words at the head of a row that is held in one block. -/
def VAt (w : World) (g : Nat) (L : List Nat) (T : List Value) : Prop := w.heap[g]? = some (.cells (u32s L ++ T).toArray 107 (0, 0))
theorem VAt.set {w : World} {g : Nat} {L : List Nat} {T : List Value} (h : VAt w g L T) (t y : Nat) (ht : t < L.length) : VAt (w.setCell ⟨g, t, none⟩ (.int .u32 (y : Int))) g (L.set t y) T := by
  have h1 := heap_setCell_same w g t _ 107 (.int .u32 (y : Int)) h
  unfold VAt
  rw [h1]
  congr 2
  rw [show u32s (L.set t y) = (u32s L).set t (.int .u32 (y : Int)) by simp [u32s, List.map_set]]
  rw [← List.set_append_left _ _ (by simpa [u32s] using ht)]
  simp
theorem VAt.cell {w : World} {g : Nat} {L : List Nat} {T : List Value} (h : VAt w g L T) (t : Nat) (ht : t < L.length) : w.cell? ⟨g, t, none⟩ = some (.int .u32 ((L.getD t 0 : Nat) : Int)) := by
  have h' : w.heap[g]? = _ := h
  simp only [World.cell?, h']
  simp only [List.getElem?_toArray]
  rw [List.getElem?_append_left (by simpa [u32s] using ht)]
  simp [u32s, ht]
theorem VAt.frozen {w : World} {g : Nat} {L : List Nat} {T : List Value} (h : VAt w g L T) (t : Nat) : w.frozen? ⟨g, t, none⟩ = false := by
  have h' : w.heap[g]? = _ := h
  simp [World.frozen?, h']
theorem VAt.move {w w' : World} {g : Nat} {L : List Nat} {T : List Value} (h : VAt w g L T) (e : w'.heap[g]? = w.heap[g]?) : VAt w' g L T := e.trans h
theorem VAt.lt {w : World} {g : Nat} {L : List Nat} {T : List Value} (h : VAt w g L T) : g < w.heap.size := (Array.getElem?_eq_some_iff.1 h).1
theorem VAt.of_own {w : World} {base n : Nat} {v : Value} {L : List Nat} (h : w.ownsRow base 107 1 v n (u32s L)) (hn : 0 < n) : ∃ g c T, v = .slice (some ⟨g, 0, none⟩) n c ∧ base ≤ g ∧ n ≤ c ∧ VAt w g L T := by
  rcases h.2 with ⟨_, h0⟩ | ⟨g, cap, cur, hv, hb, hg, h1, h2, h3, h4⟩
  · omega
  · refine ⟨g, cap, cur.toList.drop (n * 1), hv, hb, h1, ?_⟩
    unfold VAt
    rw [← h4, List.take_append_drop]
    exact hg
theorem u32_at {ok : Nat → Prop} {w : World} {A : Option Addr} {L : List Nat} (h : RdC ok w A (u32s L)) (k : Nat) (hk : k < L.length) :
    ∃ ad, A = some ad ∧ ok ad.block ∧ w.cell? (ad.add k) = some (.int .u32 ((L.getD k 0 : Nat) : Int)) := by
  obtain ⟨ad, e, hb, hc⟩ := h (by intro e; have : L = [] := List.map_eq_nil_iff.1 e; subst this; simp at hk)
  exact ⟨ad, e, hb, hc k _ (by simp [u32s, hk])⟩
theorem take_getD (L : List Nat) (k t : Nat) (h : k < t) : (L.take t).getD k 0 = L.getD k 0 := by
  rw [List.getD_eq_getElem?_getD, List.getD_eq_getElem?_getD, List.getElem?_take_of_lt h]
theorem take_snoc (L : List Nat) (t : Nat) (h : t < L.length) : L.take (t + 1) = L.take t ++ [L.getD t 0] := by
  rw [List.take_succ_eq_append_getElem h]
  simp [List.getD_eq_getElem?_getD, List.getElem?_eq_getElem h]
theorem natBytes_take (r : Bs) (k n : Nat) (h : k < n) : (natBytes (r.take n)).getD k 0 = (natBytes r).getD k 0 := by
  unfold natBytes
  rw [List.map_take, List.getD_eq_getElem?_getD, List.getD_eq_getElem?_getD, List.getElem?_take_of_lt h]
theorem first8 : (u32s firstWords).length = 8 * 1 := by simp [u32s, firstWords]
theorem first_list : V8.first.list = firstWords := rfl
theorem u32s_one (xs : List Nat) (u : Value) (h : u ∈ u32s xs) : u.oneCell' = true := by
  obtain ⟨x, _, rfl⟩ := List.mem_map.1 h
  rfl
/-- Word t of a piece, as far as byte k. -/
def wordTo (p : List Nat) (t : Nat) : Nat → Nat
  | 0 => 0
  | k + 1 => wordTo p t k * 256 + p.getD (4 * t + k) 0
theorem wordTo_all (p : List Nat) (t : Nat) : wordTo p t 4 = wordAt p t := by
  unfold wordAt
  simp [wordTo]
theorem wordTo_lt (r : Bs) (t : Nat) : ∀ k, wordTo (natBytes r) t k < 256 ^ k
  | 0 => by simp [wordTo]
  | k + 1 => by
    have h1 := wordTo_lt r t k
    have h2 := u8list_lt r (4 * t + k)
    unfold wordTo
    rw [Nat.pow_succ]
    omega
theorem word_cells (x : Nat) : bvs (wordBytes x) = [.int .u8 ((x : Int) / 16777216 % 256), .int .u8 ((x : Int) / 65536 % 256), .int .u8 ((x : Int) / 256 % 256), .int .u8 ((x : Int) % 256)] := by
  have h := fun k => shr_byte x k
  have h0 : Value.int .u8 ((x : Int) % 256) = bv (UInt8.ofNat x) := by simpa using h 0
  have h1 : Value.int .u8 ((x : Int) / 256 % 256) = bv (UInt8.ofNat (x >>> 8)) := h 8
  have h2 : Value.int .u8 ((x : Int) / 65536 % 256) = bv (UInt8.ofNat (x >>> 16)) := h 16
  have h3 : Value.int .u8 ((x : Int) / 16777216 % 256) = bv (UInt8.ofNat (x >>> 24)) := h 24
  rw [h0, h1, h2, h3]
  rfl
theorem words_snoc (L : List Nat) (t : Nat) (h : t < L.length) : (L.take (t + 1)).flatMap wordBytes = (L.take t).flatMap wordBytes ++ wordBytes (L.getD t 0) := by
  rw [take_snoc L t h, List.flatMap_append]
  simp
def RDigestP (w : World) (b : Bs) (e : Ending) (w' : World) : Prop := ∃ v, e = .returned v ∧ w'.ownsRow w.heap.size 5 1 v 32 (bvs (sha b)) ∧ Below w.heap.size w w'
set_option maxRecDepth 100000 in
set_option maxHeartbeats 0 in
theorem rdigest_any (w : World) (H : Nat) (va vb : Value) (base : Nat) (B : Option Addr) (cb : Nat) (b : Bs) (hT : TableAt base w H va vb) (hB : RdC (· < w.heap.size) w B (bvs b)) (hl : b.length ≤ 1099511627776) :
    Calls Tryd.prog 35 #[.pointer (some ⟨H, 0, none⟩), .slice B b.length cb] w (RDigestP w b) := by
  obtain ⟨i0, hi, hz0, hz1, hz2⟩ := info_parts infoU8h
  obtain ⟨i2, ki, kz0, kz1, kz2⟩ := info_parts infoU32
  obtain ⟨A8, c8, rfl, hc8, _⟩ := own_slice hT.first
  obtain ⟨A9, c9, rfl, hc9, _⟩ := own_slice hT.round
  have hhs : H < w.heap.size := (Array.getElem?_eq_some_iff.1 hT.head).1
  have hF : RdC (· < w.heap.size) w A8 (u32s firstWords) := (RdC.of_own hT.first).mono fun _ h => h.2
  have hRd : RdC (· < w.heap.size) w A9 (u32s roundWords) := (RdC.of_own hT.round).mono fun _ h => h.2
  have hch : w.cell? ⟨H, 0, none⟩ = some (.slice A8 8 c8) ∧ w.cell? ⟨H, 1, none⟩ = some (.slice A9 64 c9) := by
    have h' := hT.head
    constructor <;> simp [World.cell?, h']
  have HF := Lib.hid hF
  have HRd := Lib.hid hRd
  have HCh := Lib.hid hch
  clear hF hRd hch
  have hzr := World.ownsRow_lit (base := w.heap.size) (e := 5) (size := 1) w #[] 0 (Nat.le_refl _) (by simp [maxLen]) (by simp)
  have hbz : Below w.heap.size w (w.alloc (.cells #[] 5)) := (Below.refl _ _).alloc (Nat.le_refl _) _
  have HT := Lib.hid hT
  have HB := Lib.hid hB
  have HZ := Lib.hid hzr
  have HBz := Lib.hid hbz
  clear hT hB hzr hbz
  go_enter Tryd.func35, Tryd.ntmps35
  go_wp2_with (first
    | (
      at_builtin
      refine wpList_appS (ok := fun k => k < w.heap.size) _ w.heap.size (.tmp 32) (.tmp 33) 23 5 i0 (.int .u8 0) 1 1 rfl (by rfl) Tryd.underlying23 hi hz0 hz1 hz2 rfl (by omega) (by omega) _ 0 [] (by rfl) HZ.out B b.length cb (bvs b) (by rfl) (by simp) (HB.out.below HBz.out) (bvs_one b) (by omega) (by simp) ?_
      intro v1 w1 hown1 hg1
      have hb1 : Below w.heap.size w w1 := hg1.below HBz.out (by simp) (own_base HZ.out)
      have ho1 : w1.ownsRow w.heap.size 5 1 v1 b.length (bvs b) := by simpa using hown1
      have HB1 := Lib.hid hb1
      have HO1 := Lib.hid ho1
      have hw1 : w.heap.size ≤ w1.heap.size := hb1.size
      clear hown1 hg1 hb1 ho1)
    | (
      at_builtin
      refine wpList_app1 w.heap.size (.tmp 34) (.tmp 35) 23 5 i0 (.int .u8 0) 1 rfl (by rfl) Tryd.underlying23 hi hz0 hz1 hz2 (by rfl) (by omega) _ b.length (bvs b) (.int .u8 128) (by rfl) w1.heap.size rfl (by rfl) HO1.out rfl (by omega) (by omega) ?_
      intro v2 w2 hown2 hg2
      have hb2 : Below w.heap.size w w2 := hg2.below HB1.out hw1 (own_base HO1.out)
      have ho2 : w2.ownsRow w.heap.size 5 1 v2 (b.length + 1 + 0) (bvs (b ++ [128] ++ List.replicate 0 0)) := by
        rw [List.replicate_zero, List.append_nil, bvs_append]
        exact hown2
      have HB2 := Lib.hid hb2
      have HO2 := Lib.hid ho2
      clear hown2 hg2 hb2 ho2))
  go_loopw [5] (fun v wq => ∃ (k : Nat) (A : Option Addr) (c : Nat), k ≤ (119 - b.length % 64) % 64 ∧ v = .slice A (b.length + 1 + k) c ∧ wq.ownsRow w.heap.size 5 1 v (b.length + 1 + k) (bvs (b ++ [128] ++ List.replicate k 0)) ∧ Below w.heap.size w wq) (fun v _ => to56 (lenV v))
  case atStart =>
    obtain ⟨A, c, he, _⟩ := own_slice HO2.out
    exact ⟨0, A, c, Nat.zero_le _, he, HO2.out, HB2.out⟩
  case round =>
    obtain ⟨k, A, c, hk, rfl, hown, hbel⟩ := hrel
    have HO := Lib.hid hown
    have HBe := Lib.hid hbel
    have hbw : w.heap.size ≤ wr.heap.size := hbel.size
    clear hown hbel
    by_cases h56 : (b.length + 1 + k) % 64 = 56
    · have t2 : ((((b.length : Int) + 1 + (k : Int)) % 64) != 56) = false := by
        rw [show ((b.length : Int) + 1 + (k : Int)) % 64 = 56 by omega]; rfl
      have hk3 : k = (119 - b.length % 64) % 64 := by omega
      have HK := Lib.hid hk3
      clear hk3 h56
      go_wp2_with fail
      have hyl : (b ++ [128] ++ List.replicate k (0 : UInt8)).length = b.length + 1 + k := by simp; omega
      generalize hY : b ++ [128] ++ List.replicate k (0 : UInt8) = y at *
      have HYe := Lib.hid hY
      have HYl := Lib.hid hyl
      clear hY hyl
      go_loopw [5, 7] (fun v i wq => ∃ t : Nat, t ≤ 8 ∧ i = .int .i64 (7 - (t : Int)) ∧ wq.ownsRow w.heap.size 5 1 v (b.length + 1 + k + t) (bvs (y ++ (lengthBytes (b.length * 8)).take t)) ∧ Below w.heap.size w wq) (fun _ i _ => (intOf i + 1).toNat)
      case atStart => exact ⟨0, by omega, rfl, by simpa using HO.out, HBe.out⟩
      case round =>
        obtain ⟨t, ht, rfl, hown, hbel⟩ := hrel
        have HO4 := Lib.hid hown
        have HB4 := Lib.hid hbel
        have hbw4 : w.heap.size ≤ wr.heap.size := hbel.size
        clear hown hbel
        by_cases h8 : t < 8
        · as_aux_lemma =>
            have m0 : IntKind.i64.wrap (8 * (7 - (t : Int))) = 8 * (7 - (t : Int)) := IntWalk.i64_in _ (by omega)
            have m1 : IntKind.u64.wrap (8 * (7 - (t : Int))) = 8 * (7 - (t : Int)) := IntWalk.u64_in _ (by omega)
            have m2 : (0 : Int) ≤ 8 * (7 - (t : Int)) := by omega
            have m3 : (8 * (7 - (t : Int))).toNat = 56 - 8 * t := by omega
            have m4 : 56 - 8 * t < 64 := by omega
            have hsn : (lengthBytes (b.length * 8)).take (t + 1) = (lengthBytes (b.length * 8)).take t ++ [UInt8.ofNat ((b.length * 8) >>> (56 - 8 * t))] := by
              rw [List.take_succ_eq_append_getElem (by rw [lengthBytes_length]; exact h8), ← lengthBytes_get _ _ h8]
              simp [lengthBytes_length, h8]
            have HSn := Lib.hid hsn
            clear hsn
            go_wp2_with (
              at_builtin
              refine wpList_app1 w.heap.size (.tmp 52) (.tmp 59) 23 5 i0 (.int .u8 0) 1 rfl (by rfl) Tryd.underlying23 hi hz0 hz1 hz2 (by rfl) (by omega) _ (b.length + 1 + k + t) (bvs (y ++ (lengthBytes (b.length * 8)).take t)) _ (by rfl) wr.heap.size rfl (by rfl) HO4.out rfl (by omega) (by omega) ?_
              intro v3 w3 hown3 hg3
              have hb3 : Below w.heap.size w w3 := hg3.below HB4.out hbw4 (own_base HO4.out)
              have HO5 := Lib.hid hown3
              have HB5 := Lib.hid hb3
              clear hown3 hg3 hb3)
            refine ⟨⟨t + 1, by omega, by simp; omega, ?_, HB5.out⟩, by simp [intOf]; omega⟩
            have h5 := HO5.out
            rw [HSn.out, ← List.append_assoc, bvs_append]
            rw [show (b.length : Int) * 8 = ((b.length * 8 : Nat) : Int) by simp, shr_byte] at h5
            exact h5
        · obtain rfl : t = 8 := by omega
          rw [show ((8 : Nat) : Int) = 8 from rfl]
          have hs : y ++ (lengthBytes (b.length * 8)).take 8 = b ++ padding b.length := by
            rw [List.take_of_length_le (by rw [lengthBytes_length]; omega), ← HYe.out, HK.out]
            unfold padding
            simp [List.append_assoc]
          have ho6 := HO4.out
          rw [hs] at ho6
          obtain ⟨A6, c6, rfl, hr6, _⟩ := own_slice ho6
          have HR7 := Lib.hid hr6
          have hb6 : Below w.heap.size w wr := HB4.out
          have hR6 : RdC (· < wr.heap.size) wr A6 (bvs (b ++ padding b.length)) := (RdC.of_own ho6).mono fun _ h => h.2
          have cF : wr.cell? ⟨H, 0, none⟩ = some (.slice A8 8 c8) := (World.cell?_of_block (hb6.block _ hhs)).trans HCh.out.1
          have cR : wr.cell? ⟨H, 1, none⟩ = some (.slice A9 64 c9) := (World.cell?_of_block (hb6.block _ hhs)).trans HCh.out.2
          have hhr : H < wr.heap.size := Nat.lt_of_lt_of_le hhs hbw4
          have hF6 : RdC (· < wr.heap.size) wr A8 (u32s firstWords) := HF.out.step hb6
          have hR9 : RdC (· < wr.heap.size) wr A9 (u32s roundWords) := HRd.out.step hb6
          have hpl : (b ++ padding b.length).length = b.length + 1 + k + 8 := by
            have := HYl.out
            rw [← hs, List.length_append, HYl.out, List.length_take, lengthBytes_length]
            rfl
          have hp64 : (b.length + 1 + k + 8) % 64 = 0 := by have := HK.out; omega
          have hzr2 := World.ownsRow_lit (base := wr.heap.size) (e := 107) (size := 1) wr #[] 0 (Nat.le_refl _) (by simp [maxLen]) (by simp)
          have hbz2 : Below wr.heap.size wr (wr.alloc (.cells #[] 107)) := (Below.refl _ _).alloc (Nat.le_refl _) _
          have HZ2 := Lib.hid hzr2
          have HBz2 := Lib.hid hbz2
          have HR6 := Lib.hid hR6
          have HF6 := Lib.hid hF6
          have HR9 := Lib.hid hR9
          have HPl := Lib.hid hpl
          have HCr := Lib.hid cR
          have HB6 := Lib.hid hb6
          clear hs ho6 hr6 hR6 cR hF6 hR9 hpl hzr2 hbz2 hb6
          go_wp2_with (
            at_builtin
            refine wpList_appS (ok := fun k => k < wr.heap.size) _ wr.heap.size (.tmp 61) (.tmp 65) 92 107 i2 (.int .u32 0) 1 4 rfl (by rfl) Tryd.underlying92 ki kz0 kz1 kz2 rfl (by omega) (by omega) _ 0 [] (by rfl) HZ2.out A8 8 c8 (u32s firstWords) (by rfl) first8 (HF6.out.below HBz2.out) (u32s_one _) (by omega) (by simp) ?_
            intro v3 w3 hown3 hg3
            have hb3 : Below wr.heap.size wr w3 := hg3.below HBz2.out (by simp) (own_base HZ2.out)
            have ho3 : w3.ownsRow wr.heap.size 107 1 v3 8 (u32s V8.first.list) := by
              rw [first_list]
              exact hown3
            have hw3 : wr.heap.size ≤ w3.heap.size := hb3.size
            obtain ⟨g, cg, T, rfl, hgb, hcg, hva⟩ := VAt.of_own ho3 (by omega)
            have HB3 := Lib.hid hb3
            have HO3 := Lib.hid hva
            clear hown3 hg3 hb3 ho3 hva)
          obtain ⟨W1, rfl⟩ : ∃ x : World, x = wr := ⟨_, rfl⟩
          go_loopw [5] (fun s wq => ∃ (A : Option Addr) (c : Nat) (V : V8) (r : Bs), s = .slice A r.length c ∧ r.length ≤ c ∧ r.length % 64 = 0 ∧ r.length ≤ 1099511627776 + 128 ∧ V.ok ∧ RdC (· < W1.heap.size) W1 A (bvs r) ∧ whole V r = whole V8.first (b ++ padding b.length) ∧ VAt wq g V.list T ∧ Below W1.heap.size W1 wq) (fun s _ => lenV s)
          case atStart =>
            have h7 := HR7.out
            rw [← HPl.out] at h7 hp64
            exact ⟨A6, c6, V8.first, b ++ padding b.length, by rw [HPl.out], h7, hp64, by rw [HPl.out]; omega, first_ok, HR6.out, rfl, HO3.out, HB3.out⟩
          case round =>
            obtain ⟨A, c, V, r, rfl, hrc, hr64, hrl, hok, hR, hwh, hown, hbel⟩ := hrel
            have HOk := Lib.hid hok
            have HWh := Lib.hid hwh
            have HV4 := Lib.hid hown
            have HB5 := Lib.hid hbel
            have HR5 := Lib.hid (hR.step hbel)
            have hR0 := Lib.hid hR
            clear hok hwh hown hbel hR
            by_cases h0 : 64 ≤ r.length
            · have t0 : (0 : Int) < (r.length : Int) := by omega
              have hzr3 := World.ownsRow_lit (base := wr.heap.size) (e := 107) (size := 1) wr #[] 0 (Nat.le_refl _) (by simp [maxLen]) (by simp)
              have hbz3 : Below wr.heap.size wr (wr.alloc (.cells #[] 107)) := (Below.refl _ _).alloc (Nat.le_refl _) _
              have HZ3 := Lib.hid hzr3
              have HBz3 := Lib.hid hbz3
              clear hzr3 hbz3
              go_wp2_with fail
              obtain ⟨W3, rfl⟩ : ∃ x : World, x = wr := ⟨_, rfl⟩
              have hpl : (natBytes (r.take 64)).length = 64 := by simp [natBytes]; omega
              go_loopw [10, 9] (fun i v wq => ∃ t : Nat, t ≤ 16 ∧ i = .int .i64 t ∧ wq.ownsRow W3.heap.size 107 1 v t (u32s ((sched (natBytes (r.take 64))).take t)) ∧ Below W3.heap.size W3 wq) (fun i _ _ => 16 - (intOf i).toNat)
              case atStart => exact ⟨0, by omega, rfl, by simpa [u32s] using HZ3.out, HBz3.out⟩
              case round =>
                obtain ⟨t, ht, rfl, hown, hbel⟩ := hrel
                have HW6 := Lib.hid hown
                have HB6 := Lib.hid hbel
                have hbw6 : W3.heap.size ≤ wr.heap.size := hbel.size
                clear hown hbel
                by_cases h16 : t < 16
                · have j1 : (t : Int) < 16 := by omega
                  go_wp2_with fail
                  obtain ⟨W5, rfl⟩ : ∃ x : World, x = wr := ⟨_, rfl⟩
                  go_loopw [12, 11] (fun i x wq => ∃ j : Nat, j ≤ 4 ∧ i = .int .i64 j ∧ x = .int .u32 ((wordTo (natBytes (r.take 64)) t j : Nat) : Int) ∧ wq = W5) (fun i _ _ => 4 - (intOf i).toNat)
                  case atStart => exact ⟨0, by omega, rfl, rfl, rfl⟩
                  case round =>
                    obtain ⟨j, hj, rfl, rfl, rfl⟩ := hrel
                    by_cases h4 : j < 4
                    · as_aux_lemma =>
                        have j2 : (j : Int) < 4 := by omega
                        obtain ⟨ad, rfl, hadb, c0, b0⟩ := byte_at (HR5.out.below HB6.out) (4 * t + j) (by omega)
                        have m0 : IntKind.i64.wrap (4 * (t : Int)) = 4 * (t : Int) := IntWalk.i64_in _ (by omega)
                        have m1 : IntKind.i64.wrap (4 * (t : Int) + (j : Int)) = 4 * (t : Int) + (j : Int) := IntWalk.i64_in _ (by omega)
                        have q0 : (4 * (t : Int) + (j : Int)).toNat = 4 * t + j := by omega
                        have r0 : 0 ≤ 4 * (t : Int) + (j : Int) ∧ 4 * (t : Int) + (j : Int) < (r.length : Int) := by omega
                        have hlt := wordTo_lt (r.take 64) t j
                        have hlt2 : wordTo (natBytes (r.take 64)) t j < 16777216 := Nat.lt_of_lt_of_le hlt (show 256 ^ j ≤ 256 ^ 3 from Nat.pow_le_pow_right (by omega) (by omega))
                        have hst : wordTo (natBytes (r.take 64)) t (j + 1) = wordTo (natBytes (r.take 64)) t j * 256 + (natBytes r).getD (4 * t + j) 0 := by
                          show _ * 256 + (natBytes (r.take 64)).getD (4 * t + j) 0 = _
                          rw [natBytes_take r _ _ (by omega)]
                        have HSt := Lib.hid hst
                        clear hst hlt
                        generalize wordTo (natBytes (r.take 64)) t j = x at *
                        generalize (natBytes r).getD (4 * t + j) 0 = y at *
                        have w0 : IntKind.u32.wrap (y : Int) = y := IntWalk.u32_in _ (by omega)
                        have w1 : (x : Int) * 256 % 4294967296 = (x : Int) * 256 := by omega
                        have w2 : IntKind.u32.wrap ((x : Int) * 256 + (y : Int)) = (x : Int) * 256 + (y : Int) := IntWalk.u32_in _ (by omega)
                        go_wp2_with fail
                        refine ⟨⟨j + 1, by omega, by simp, by rw [HSt.out]; simp, by trivial⟩, by simp [intOf]; omega⟩
                    · as_aux_lemma =>
                        obtain rfl : j = 4 := by omega
                        rw [show ((4 : Nat) : Int) = 4 from rfl, wordTo_all]
                        have hsn := take_snoc (sched (natBytes (r.take 64))) t (by rw [sched_length]; omega)
                        rw [sched_first _ t h16] at hsn
                        have HSn := Lib.hid hsn
                        clear hsn
                        go_wp2_with (
                          at_builtin
                          refine wpList_app1 W3.heap.size (.tmp 92) (.tmp 94) 92 107 i2 (.int .u32 0) 4 rfl (by rfl) Tryd.underlying92 ki kz0 kz1 kz2 (by rfl) (by omega) _ t _ (.int .u32 ((wordAt (natBytes (r.take 64)) t : Nat) : Int)) (by rfl) wr.heap.size rfl (by rfl) HW6.out rfl (by omega) (by omega) ?_
                          intro v7 w7 hown7 hg7
                          have hb7 : Below W3.heap.size W3 w7 := hg7.below HB6.out hbw6 (own_base HW6.out)
                          have HO7 := Lib.hid hown7
                          have HB7 := Lib.hid hb7
                          clear hown7 hg7 hb7)
                        refine ⟨⟨t + 1, by omega, by go_num, by rw [HSn.out, u32s_append]; exact HO7.out, HB7.out⟩, by simp [intOf]; omega⟩
                · obtain rfl : t = 16 := by omega
                  rw [show ((16 : Nat) : Int) = 16 from rfl]
                  go_wp2_with fail
                  go_loopw [13, 9] (fun i v wq => ∃ t : Nat, 16 ≤ t ∧ t ≤ 64 ∧ i = .int .i64 t ∧ wq.ownsRow W3.heap.size 107 1 v t (u32s ((sched (natBytes (r.take 64))).take t)) ∧ Below W3.heap.size W3 wq) (fun i _ _ => 64 - (intOf i).toNat)
                  case atStart => exact ⟨16, by omega, by omega, rfl, HW6.out, HB6.out⟩
                  case round =>
                    obtain ⟨t, ht16, ht, rfl, hown, hbel⟩ := hrel
                    obtain ⟨Aw, cw, rfl, hcw, _⟩ := own_slice hown
                    have HW8 := Lib.hid hown
                    have HB8 := Lib.hid hbel
                    have hbw8 : W3.heap.size ≤ wr.heap.size := hbel.size
                    by_cases h64 : t < 64
                    · as_aux_lemma =>
                        have j1 : (t : Int) < 64 := by omega
                        have hll : ((sched (natBytes (r.take 64))).take t).length = t := by rw [List.length_take, sched_length]; omega
                        obtain ⟨gw, cw', Tw, hvw, hgwb, hcw', hvw2⟩ := VAt.of_own hown (by omega)
                        cases hvw
                        have hadb : gw < wr.heap.size := hvw2.lt
                        have c0 := hvw2.cell (t - 15) (by omega)
                        have c1 := hvw2.cell (t - 2) (by omega)
                        have c2 := hvw2.cell (t - 16) (by omega)
                        have c3 := hvw2.cell (t - 7) (by omega)
                        have hx2 : (u32s ((sched (natBytes (r.take 64))).take t))[t - 16]? = some (.int .u32 (((sched (natBytes (r.take 64))).getD (t - 16) 0 : Nat) : Int)) := by
                          rw [← take_getD _ _ t (by omega)]
                          simp only [u32s, List.getElem?_map, List.getD_eq_getElem?_getD]
                          rw [List.getElem?_eq_getElem (by rw [hll]; omega)]
                          rfl
                        have hx3 : (u32s ((sched (natBytes (r.take 64))).take t))[t - 7]? = some (.int .u32 (((sched (natBytes (r.take 64))).getD (t - 7) 0 : Nat) : Int)) := by
                          rw [← take_getD _ _ t (by omega)]
                          simp only [u32s, List.getElem?_map, List.getD_eq_getElem?_getD]
                          rw [List.getElem?_eq_getElem (by rw [hll]; omega)]
                          rfl
                        rw [take_getD _ _ _ (by omega)] at c0 c1 c2 c3
                        have hnx := sched_next (natBytes (r.take 64)) t (by omega) h64
                        have hsn := take_snoc (sched (natBytes (r.take 64))) t (by rw [sched_length]; omega)
                        rw [hnx] at hsn
                        have b0 := sched_lt (r.take 64) (t - 15)
                        have b1 := sched_lt (r.take 64) (t - 2)
                        have b2 := sched_lt (r.take 64) (t - 16)
                        have b3 := sched_lt (r.take 64) (t - 7)
                        have m0 : IntKind.i64.wrap ((t : Int) - 15) = (t : Int) - 15 := IntWalk.i64_in _ (by omega)
                        have m1 : IntKind.i64.wrap ((t : Int) - 2) = (t : Int) - 2 := IntWalk.i64_in _ (by omega)
                        have m2 : IntKind.i64.wrap ((t : Int) - 16) = (t : Int) - 16 := IntWalk.i64_in _ (by omega)
                        have m3 : IntKind.i64.wrap ((t : Int) - 7) = (t : Int) - 7 := IntWalk.i64_in _ (by omega)
                        have q0 : ((t : Int) - 15).toNat = t - 15 := by omega
                        have q1 : ((t : Int) - 2).toNat = t - 2 := by omega
                        have q2 : ((t : Int) - 16).toNat = t - 16 := by omega
                        have q3 : ((t : Int) - 7).toNat = t - 7 := by omega
                        have r0 : 0 ≤ (t : Int) - 15 ∧ (t : Int) - 15 < (t : Int) := by omega
                        have r1 : 0 ≤ (t : Int) - 2 ∧ (t : Int) - 2 < (t : Int) := by omega
                        have r2 : 0 ≤ (t : Int) - 16 ∧ (t : Int) - 16 < (t : Int) := by omega
                        have r3 : 0 ≤ (t : Int) - 7 ∧ (t : Int) - 7 < (t : Int) := by omega
                        have HSn := Lib.hid hsn
                        clear hsn hnx hll hown hbel hvw2
                        generalize (sched (natBytes (r.take 64))).getD (t - 15) 0 = x at *
                        generalize (sched (natBytes (r.take 64))).getD (t - 2) 0 = y at *
                        generalize (sched (natBytes (r.take 64))).getD (t - 16) 0 = p at *
                        generalize (sched (natBytes (r.take 64))).getD (t - 7) 0 = q at *
                        have HX2 := Lib.hid hx2
                        have HX3 := Lib.hid hx3
                        clear hx2 hx3
                        go_wp2_with fail
                        go_quiet ((go_at_call 55; exact Calls.quiet_of_same (right_i x _ _ b0 (by omega) (by omega))))
                        go_wp2_with fail
                        obtain ⟨na, rfl⟩ : ∃ x : Nat, x = nq := ⟨_, rfl⟩
                        go_quiet ((go_at_call 55; exact quiet_add_same (right_i y _ _ b1 (by omega) (by omega))))
                        go_wp2_with fail
                        have k7 : (7 : Int) ≤ (t : Int) := by omega
                        have k16 : (16 : Int) ≤ (t : Int) := by omega
                        have hrn : ∀ (z : Int) (W : World), z = ((mixW p q x y : Nat) : Int) → W.heap = (wr.alloc (.cells #[.int .u32 z] 107 (0, 0))).heap → RdC (fun k => k = wr.heap.size) W (some ⟨wr.heap.size, 0, none⟩) (u32s [mixW p q x y]) := by
                          rintro z W rfl e
                          exact (RdC.new wr #[.int .u32 ((mixW p q x y : Nat) : Int)] 107).move fun b _ => by rw [e]
                        have HRn := Lib.hid hrn
                        clear hrn
                        go_region_held3 (fun W => W.cell? ⟨gw, t - 16, none⟩ = some (.int .u32 (p : Int)) ∧ W.cell? ⟨gw, t - 7, none⟩ = some (.int .u32 (q : Int)))
                          (first | go_keep | exact ⟨by simpa [Addr.add_lit] using hk7 _ _ HX2.out, by simpa [Addr.add_lit] using hk7 _ _ HX3.out⟩)
                          ((refine step_appK W3.heap.size _ _ 92 107 i2 (.int .u32 0) 1 4 (by rfl) (by rfl) Tryd.underlying92 ki kz0 kz1 kz2 rfl (by omega) (by omega) gw _ t (u32s ((sched (natBytes (r.take 64))).take t)) (by rfl) (own_like rfl HW8.out) ⟨wr.heap.size, 0, none⟩ 1 1 (u32s [mixW p q x y]) (by rfl) (by rfl) (by simp [u32s]) (HRn.out _ _ (by rw [← mix_eq p q x y b0 b1]; simp only [IntKind.wrap_u32]; omega) rfl) (u32s_one _) (by omega) (by simp; omega) ?_; intro v7 w7 hown7 hg7 hk7))
                        have hb7 : Below W3.heap.size W3 w7 := hg7.below ((below_drewN HB8.out _).alloc hbw8 _) (by simp; omega) (own_base HW8.out)
                        have HO7 := Lib.hid hown7
                        have HB7 := Lib.hid hb7
                        clear hown7 hg7 hk7 hb7
                        go_wp2_with fail
                        refine ⟨⟨t + 1, by omega, by omega, by go_num, by rw [HSn.out, u32s_append]; exact HO7.out, HB7.out⟩, by simp [intOf]; omega⟩
                    · obtain rfl : t = 64 := by omega
                      rw [List.take_of_length_le (by rw [sched_length]; omega)] at hown
                      rw [show ((64 : Nat) : Int) = 64 from rfl]
                      have hRw := (RdC.of_own hown).mono (ok' := (· < wr.heap.size)) fun _ h => h.2
                      have hR9b := (HR9.out.step HB5.out).step HB8.out
                      have hgl : g < W3.heap.size := HV4.out.lt
                      have hva : VAt wr g V.list T := HV4.out.move (hbel.block g hgl)
                      have hhr3 : H < W3.heap.size := Nat.lt_of_lt_of_le hhr HB5.out.size
                      have hhr4 : H < wr.heap.size := Nat.lt_of_lt_of_le hhr3 hbw8
                      have hcr : wr.cell? ⟨H, 1, none⟩ = some (.slice A9 64 c9) := (World.cell?_of_block ((hbel.block H hhr3).trans (HB5.out.block H hhr))).trans HCr.out
                      have d0 : wr.cell? ⟨g, 0, none⟩ = some (.int .u32 (V.a : Int)) := hva.cell 0 (show 0 < 8 by omega)
                      have d1 : wr.cell? ⟨g, 1, none⟩ = some (.int .u32 (V.b : Int)) := hva.cell 1 (show 1 < 8 by omega)
                      have d2 : wr.cell? ⟨g, 2, none⟩ = some (.int .u32 (V.c : Int)) := hva.cell 2 (show 2 < 8 by omega)
                      have d3 : wr.cell? ⟨g, 3, none⟩ = some (.int .u32 (V.d : Int)) := hva.cell 3 (show 3 < 8 by omega)
                      have d4 : wr.cell? ⟨g, 4, none⟩ = some (.int .u32 (V.e : Int)) := hva.cell 4 (show 4 < 8 by omega)
                      have d5 : wr.cell? ⟨g, 5, none⟩ = some (.int .u32 (V.f : Int)) := hva.cell 5 (show 5 < 8 by omega)
                      have d6 : wr.cell? ⟨g, 6, none⟩ = some (.int .u32 (V.g : Int)) := hva.cell 6 (show 6 < 8 by omega)
                      have d7 : wr.cell? ⟨g, 7, none⟩ = some (.int .u32 (V.h : Int)) := hva.cell 7 (show 7 < 8 by omega)
                      have hadd : ∀ b j, (⟨b, 0, none⟩ : Addr).add j = ⟨b, j, none⟩ := fun b j => by unfold Addr.add; split <;> simp_all
                      have HRw := Lib.hid hRw
                      have HR9b := Lib.hid hR9b
                      have HVa := Lib.hid hva
                      have HCr2 := Lib.hid hcr
                      clear hRw hR9b hva hcr hown hbel
                      go_wp2_with fail
                      go_quiet (fail)
                      go_wp2_with fail
                      clear d0 d1 d2 d3 d4 d5 d6 d7
                      obtain ⟨nv, rfl⟩ : ∃ x : Nat, x = nq := ⟨_, rfl⟩
                      obtain ⟨W6, rfl⟩ : ∃ x : World, x = wr := ⟨_, rfl⟩
                      go_loopw [24, 16, 17, 18, 19, 20, 21, 22, 23] (fun i v0 v1 v2 v3 v4 v5 v6 v7 wq => ∃ t : Nat, t ≤ 64 ∧ i = .int .i64 t ∧ v0 = .int .u32 ((roundsR V (roundWords.take t) ((sched (natBytes (r.take 64))).take t)).a : Int) ∧ v1 = .int .u32 ((roundsR V (roundWords.take t) ((sched (natBytes (r.take 64))).take t)).b : Int) ∧ v2 = .int .u32 ((roundsR V (roundWords.take t) ((sched (natBytes (r.take 64))).take t)).c : Int) ∧ v3 = .int .u32 ((roundsR V (roundWords.take t) ((sched (natBytes (r.take 64))).take t)).d : Int) ∧ v4 = .int .u32 ((roundsR V (roundWords.take t) ((sched (natBytes (r.take 64))).take t)).e : Int) ∧ v5 = .int .u32 ((roundsR V (roundWords.take t) ((sched (natBytes (r.take 64))).take t)).f : Int) ∧ v6 = .int .u32 ((roundsR V (roundWords.take t) ((sched (natBytes (r.take 64))).take t)).g : Int) ∧ v7 = .int .u32 ((roundsR V (roundWords.take t) ((sched (natBytes (r.take 64))).take t)).h : Int) ∧ Below W6.heap.size W6 wq) (fun i _ _ _ _ _ _ _ _ _ => 64 - (intOf i).toNat)
                      case atStart => exact ⟨0, by omega, rfl, rfl, rfl, rfl, rfl, rfl, rfl, rfl, rfl, below_drewN (Below.refl _ _) _⟩
                      case round =>
                        obtain ⟨t, ht, rfl, rfl, rfl, rfl, rfl, rfl, rfl, rfl, rfl, hbel⟩ := hrel
                        have HB9 := Lib.hid hbel
                        have hbw9 : W6.heap.size ≤ wr.heap.size := hbel.size
                        clear hbel
                        by_cases h64 : t < 64
                        · as_aux_lemma =>
                            have j1 : (t : Int) < 64 := by omega
                            have j0 : (0 : Int) ≤ (t : Int) := by omega
                            have hok := roundsR_ok (roundWords.take t) ((sched (natBytes (r.take 64))).take t) V HOk.out
                            have hsn := roundsR_snoc t roundWords (sched (natBytes (r.take 64))) V h64 (by rw [sched_length]; exact h64)
                            obtain ⟨ad9, rfl, _, c1⟩ := u32_at (HR9b.out.below HB9.out) t h64
                            obtain ⟨adw, rfl, _, c2⟩ := u32_at (HRw.out.below HB9.out) t (by rw [sched_length]; exact h64)
                            have c3 : wr.cell? ⟨H, 1, none⟩ = some (.slice (some ad9) 64 c9) := (World.cell?_of_block (HB9.out.block H hhr4)).trans HCr2.out
                            generalize (sched (natBytes (r.take 64))).getD t 0 = x at *
                            generalize roundWords.getD t 0 = k at *
                            generalize roundsR V (roundWords.take t) ((sched (natBytes (r.take 64))).take t) = u at *
                            obtain ⟨oa, ob, oc, od, oe, of, og, oh⟩ := hok
                            have HSn := Lib.hid hsn
                            clear hsn
                            have hnot : (if IntKind.u32.signed = true then (-1 : Int) else IntKind.u32.max) = 4294967295 := rfl
                            go_wp2_with fail
                            go_quiet ((go_at_call 55; exact Calls.quiet_of_same (right_i u.e _ _ oe (by omega) (by omega))))
                            rw [one_eq u k x oe of og]
                            generalize hone : oneR u k x = one at *
                            have HOne := Lib.hid hone
                            clear hone hnot c1 c2 c3
                            go_wp2_with ((go_at_call 55; refine (right_i u.a _ _ oa (by omega) (by omega)).mono ?_; rintro e w' ⟨rfl, rfl⟩))
                            rw [two_eq u oa ob oc]
                            have q1 : ((u.d : Int) + (one : Int)) % 4294967296 = (((u.d + one) % 4294967296 : Nat) : Int) := by omega
                            have q2 : ((one : Int) + ((twoR u : Nat) : Int)) % 4294967296 = (((one + twoR u) % 4294967296 : Nat) : Int) := by omega
                            refine ⟨⟨t + 1, by omega, by go_num, ?_, ?_, ?_, ?_, ?_, ?_, ?_, ?_, below_drewN HB9.out _⟩, by simp [intOf]; omega⟩
                            all_goals (first | (rw [HSn.out, stepR_eq, HOne.out]; done) | (rw [HSn.out, stepR_eq, HOne.out, q1]; done) | (rw [HSn.out, stepR_eq, HOne.out, q2]; done))
                        · obtain rfl : t = 64 := by omega
                          rw [show ((64 : Nat) : Int) = 64 from rfl]
                          rw [List.take_of_length_le (show roundWords.length ≤ 64 from Nat.le_refl _), List.take_of_length_le (show (sched (natBytes (r.take 64))).length ≤ 64 by rw [sched_length]; omega)]
                          generalize hu : roundsR V roundWords (sched (natBytes (r.take 64))) = u at *
                          have HU := Lib.hid hu
                          clear hu
                          have hgl6 : g < W6.heap.size := Nat.lt_of_lt_of_le hgl hbw8
                          have hva9 : VAt wr g V.list T := HVa.out.move (HB9.out.block g hgl6)
                          have hb19 : Below W1.heap.size W1 wr := (HB5.out.trans (HB8.out.mono HB5.out.size)).trans (HB9.out.mono (Nat.le_trans HB5.out.size hbw8))
                          have hglr : g < wr.heap.size := Nat.lt_of_lt_of_le hgl6 hbw9
                          have HVa9 := Lib.hid hva9
                          have HB19 := Lib.hid hb19
                          clear hva9 hb19
                          go_wp2_with fail
                          obtain ⟨W7, rfl⟩ : ∃ x : World, x = wr := ⟨_, rfl⟩
                          go_loopw [260] (fun i wq => ∃ t : Nat, t ≤ 8 ∧ i = .int .i64 t ∧ VAt wq g (sumL V.list u.list t) T ∧ VAt wq W7.heap.size u.list [] ∧ Below W1.heap.size W1 wq) (fun i _ => 8 - (intOf i).toNat)
                          case atStart => exact ⟨0, by omega, rfl, by rw [sumL_none]; exact HVa9.out.move (heap_alloc_old _ _ hglr), by unfold VAt; rw [heap_alloc_new]; rfl, HB19.out.alloc HB19.out.size _⟩
                          case round =>
                            obtain ⟨t, ht, rfl, hva, hvu, hbel⟩ := hrel
                            have HVb := Lib.hid hva
                            have HVu := Lib.hid hvu
                            have HB10 := Lib.hid hbel
                            by_cases h8 : t < 8
                            · as_aux_lemma =>
                                have j1 : (t : Int) < 8 := by omega
                                have j0 : (0 : Int) ≤ (t : Int) := by omega
                                have c1 := hva.cell t (by rw [sumV_length _ _ _ (by omega)]; exact h8)
                                rw [sumV_get _ _ _ h8] at c1
                                have c2 := hvu.cell t (show t < 8 from h8)
                                have c3 := hva.frozen t
                                have hset := sumV_set V u t h8
                                have HSet := Lib.hid hset
                                clear hva hvu hbel hset
                                generalize V.list.getD t 0 = x at *
                                generalize u.list.getD t 0 = y at *
                                go_wp2_with fail
                                have hgne : g ≠ W7.heap.size := Nat.ne_of_lt hglr
                                have q1 : ((x : Int) + (y : Int)) % 4294967296 = (((x + y) % 4294967296 : Nat) : Int) := by omega
                                refine ⟨⟨t + 1, by omega, by go_num, ?_, HVu.out.move (heap_setCell_other _ _ _ _ (Ne.symm hgne)), below_set HB10.out _ _ _ hgb⟩, by simp [intOf]; omega⟩
                                rw [q1, ← HSet.out]
                                exact HVb.out.set t _ (by rw [sumV_length _ _ _ (by omega)]; exact h8)
                            · obtain rfl : t = 8 := by omega
                              rw [show ((8 : Nat) : Int) = 8 from rfl]
                              rw [sumL_all, ← HU.out] at hva
                              have hnw : whole V r = whole (pieceV V (natBytes (r.take 64))) (r.drop 64) := whole_more V r h0
                              have hdr := RdC.dropIf hR0.out c 64 hrc
                              have HNw := Lib.hid (hnw.symm.trans HWh.out)
                              have HDr := Lib.hid hdr
                              have HVc := Lib.hid hva
                              have HB11 := Lib.hid hbel
                              have hcc : ((64 : Int)) ≤ (r.length : Int) ∧ (64 : Int) ≤ (c : Int) ∧ (r.length : Int) ≤ (c : Int) := by omega
                              clear hva hvu hbel hnw hdr
                              go_wp2_with fail
                              have hfe : (fun x : Addr => (⟨x.block, x.off + 64, none⟩ : Addr)) = fun x => x.add 64 := by
                                funext x
                                simp [Addr.add]
                              refine ⟨⟨(if c = 64 then A else Option.map (fun x => x.add 64) A), c - 64, pieceV V (natBytes (r.take 64)), r.drop 64, by rw [List.length_drop, ← hfe], by simp; omega, by simp; omega, by simp; omega, pieceV_ok _ _, HDr.out, HNw.out, HVc.out, HB11.out⟩, by simp [lenV]; omega⟩
            · as_aux_lemma =>
                have t0 : ¬ (0 : Int) < (r.length : Int) := by omega
                have hsh : sha b = V.list.flatMap wordBytes := by rw [sha_whole, ← HWh.out, whole_few V r (by omega)]
                have HSh := Lib.hid hsh
                clear hsh
                have hgl : g < wr.heap.size := HV4.out.lt
                have hzr9 := World.ownsRow_lit (base := wr.heap.size) (e := 5) (size := 1) wr #[] 0 (Nat.le_refl _) (by simp [maxLen]) (by simp)
                have HZ9 := Lib.hid hzr9
                have HBz9 := Lib.hid (show Below wr.heap.size wr (wr.alloc (.cells #[] 5)) from (Below.refl _ _).alloc (Nat.le_refl _) _)
                clear hzr9
                go_wp2_with fail
                obtain ⟨W9, rfl⟩ : ∃ x : World, x = wr := ⟨_, rfl⟩
                go_loopw [276, 29] (fun i v wq => ∃ t : Nat, t ≤ 8 ∧ i = .int .i64 t ∧ wq.ownsRow W9.heap.size 5 1 v (4 * t) (bvs ((V.list.take t).flatMap wordBytes)) ∧ Below W9.heap.size W9 wq) (fun i _ _ => 8 - (intOf i).toNat)
                case atStart => exact ⟨0, by omega, rfl, HZ9.out, HBz9.out⟩
                case round =>
                  obtain ⟨t, ht, rfl, hown, hbel⟩ := hrel
                  have hbw9 : W9.heap.size ≤ wr.heap.size := hbel.size
                  by_cases h8 : t < 8
                  · have j1 : (t : Int) < 8 := by omega
                    have j0 : (0 : Int) ≤ (t : Int) := by omega
                    have c1 := (HV4.out.move (hbel.block g hgl)).cell t (show t < 8 from h8)
                    have hsn := words_snoc V.list t (show t < 8 from h8)
                    generalize V.list.getD t 0 = x at *
                    have hrn : RdC (fun k => k = wr.heap.size) (wr.alloc (.cells #[.int .u8 ((x : Int) / 16777216 % 256), .int .u8 ((x : Int) / 65536 % 256), .int .u8 ((x : Int) / 256 % 256), .int .u8 ((x : Int) % 256)] 5 (0, 0))) (some ⟨wr.heap.size, 0, none⟩) (bvs (wordBytes x)) := by
                      rw [word_cells]
                      exact RdC.new wr #[.int .u8 ((x : Int) / 16777216 % 256), .int .u8 ((x : Int) / 65536 % 256), .int .u8 ((x : Int) / 256 % 256), .int .u8 ((x : Int) % 256)] 5
                    have HSn := Lib.hid hsn
                    have HRn := Lib.hid hrn
                    have HO := Lib.hid hown
                    have HBl := Lib.hid hbel
                    clear hsn hrn hown hbel
                    go_wp2_with (
                      at_builtin
                      refine wpList_appS (ok := fun k => k = wr.heap.size) _ W9.heap.size (.tmp 280) (.tmp 292) 23 5 i0 (.int .u8 0) 1 1 rfl (by rfl) Tryd.underlying23 hi hz0 hz1 hz2 rfl (by omega) (by omega) _ (4 * t) _ (by rfl) (HO.out.alloc _) (some ⟨wr.heap.size, 0, none⟩) 4 4 (bvs (wordBytes x)) (by rfl) (by rfl) HRn.out (bvs_one _) (by omega) (by simp; omega) ?_
                      intro v3 w3 hown3 hg3
                      have HB3 := Lib.hid (show Below W9.heap.size W9 w3 from hg3.below (HBl.out.alloc hbw9 _) (by simp; omega) (own_base HO.out))
                      have HO3 := Lib.hid hown3
                      clear hown3 hg3)
                    refine ⟨⟨t + 1, by omega, by go_num, ?_, HB3.out⟩, by simp [intOf]; omega⟩
                    rw [HSn.out, bvs_append, Nat.mul_succ]
                    exact HO3.out
                  · obtain rfl : t = 8 := by omega
                    rw [List.take_of_length_le (show V.list.length ≤ 8 from Nat.le_refl _), ← HSh.out] at hown
                    have HO := Lib.hid hown
                    have HBl := Lib.hid hbel
                    clear hown hbel
                    rw [show ((8 : Nat) : Int) = 8 from rfl]
                    go_wp2_with fail
                    go_ret
                    exact ⟨_, rfl, own_lower HO.out (Nat.le_trans hbw4 HB5.out.size), HB6.out.trans ((HB5.out.trans (HBl.out.mono HB5.out.size)).mono hbw4)⟩
    · as_aux_lemma =>
        have t2 : ((((b.length : Int) + 1 + (k : Int)) % 64) != 56) = true := by
          rw [bne_iff_ne]; omega
        have hk2 : k < (119 - b.length % 64) % 64 := by omega
        have H56 := Lib.hid h56
        clear h56
        go_wp2_with (
          at_builtin
          refine wpList_app1 w.heap.size (.tmp 41) (.tmp 42) 23 5 i0 (.int .u8 0) 1 rfl (by rfl) Tryd.underlying23 hi hz0 hz1 hz2 (by rfl) (by omega) _ (b.length + 1 + k) (bvs (b ++ [128] ++ List.replicate k 0)) (.int .u8 0) (by rfl) wr.heap.size rfl (by rfl) HO.out rfl (by omega) (by omega) ?_
          intro v3 w3 hown3 hg3
          have hb3 : Below w.heap.size w w3 := hg3.below HBe.out hbw (own_base HO.out)
          have ho3 : w3.ownsRow w.heap.size 5 1 v3 (b.length + 1 + (k + 1)) (bvs (b ++ [128] ++ List.replicate (k + 1) 0)) := by
            rw [List.replicate_succ', ← List.append_assoc, bvs_append]
            exact hown3
          obtain ⟨A3, c3, rfl, _, _⟩ := own_slice ho3
          have HB3 := Lib.hid hb3
          have HO3 := Lib.hid ho3
          clear hown3 hg3 hb3 ho3)
        refine ⟨⟨k + 1, A3, c3, by omega, rfl, HO3.out, HB3.out⟩, ?_⟩
        have := H56.out
        unfold to56
        show (if (b.length + 1 + (k + 1)) % 64 ≤ 56 then _ else _) < (if (b.length + 1 + k) % 64 ≤ 56 then _ else _)
        simp only [lenV]
        split <;> split <;> omega
end Go.Proofs.YtpekagkhgegefaaDoor
