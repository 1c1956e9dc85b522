/- A row that may have been cut at its front: its cells behind an address; append. Plain theorems over any program. -/
import Derived.Test.YtipgimmgjdgdeaaDoorBase
import Derived.Deep.Upon
set_option linter.unusedVariables false
set_option linter.unusedSimpArgs false
set_option linter.unnecessarySimpa false
namespace Go.Proofs.YtipgimmgjdgdeaaDoor
open Go.RowKit

/-- The block that a slice may write to: none, if it has no room at all. -/
def cutB : Value → Option Nat
  | .slice (some a) _ (_ + 1) => some a.block
  | _ => none
theorem cutB_pos {a : Addr} {n cap : Nat} (h : 0 < cap) : cutB (.slice (some a) n cap) = some a.block := by
  cases cap with
  | zero => omega
  | succ c => rfl
theorem cutB_zero {A : Option Addr} {n : Nat} : cutB (.slice A n 0) = none := by cases A <;> rfl
/-- THE ROW: n elements of so many cells, xs; in blocks that are M. -/
def CutAt (M : Nat → Prop) (w : World) (size : Nat) (v : Value) (n : Nat) (xs : List Value) : Prop :=
  ∃ A cap, v = .slice A n cap ∧ n ≤ cap ∧ cap ≤ maxLen ∧ xs.length = n * size ∧ (0 < cap → ∃ g off, A = some ⟨g, off, none⟩ ∧ M g ∧ g < w.heap.size ∧ (∀ j, j < n * size → w.cell? ⟨g, off + j, none⟩ = xs[j]?) ∧
    ∀ j, j < cap * size → (w.cell? ⟨g, off + j, none⟩).isSome = true ∧ w.frozen? ⟨g, off + j, none⟩ = false)
theorem CutAt.nil (M : Nat → Prop) (w : World) (size : Nat) : CutAt M w size (.slice none 0 0) 0 [] := ⟨none, 0, rfl, Nat.le_refl _, by simp [maxLen], by simp, fun h => absurd h (Nat.lt_irrefl _)⟩
theorem CutAt.zero (M : Nat → Prop) (w : World) (size : Nat) (A : Option Addr) : CutAt M w size (.slice A 0 0) 0 [] := ⟨A, 0, rfl, Nat.le_refl _, by simp [maxLen], by simp, fun h => absurd h (Nat.lt_irrefl _)⟩
theorem CutAt.lt {M : Nat → Prop} {w : World} {size : Nat} {v : Value} {n : Nat} {xs : List Value} (h : CutAt M w size v n xs) (b : Nat) (hb : cutB v = some b) : M b ∧ b < w.heap.size := by
  obtain ⟨A, cap, rfl, _, _, _, hx⟩ := h
  cases cap with
  | zero => rw [cutB_zero] at hb; cases hb
  | succ c =>
    obtain ⟨g, off, rfl, h1, h2, _⟩ := hx (by omega)
    have : g = b := Option.some.inj hb
    subst this
    exact ⟨h1, h2⟩
theorem CutAt.move {M : Nat → Prop} {w w' : World} {size : Nat} {v : Value} {n : Nat} {xs : List Value} (h : CutAt M w size v n xs) (hz : w.heap.size ≤ w'.heap.size) (hb : ∀ b, cutB v = some b → w'.heap[b]? = w.heap[b]?) : CutAt M w' size v n xs := by
  obtain ⟨A, cap, rfl, h1, h2, h3, hx⟩ := h
  refine ⟨A, cap, rfl, h1, h2, h3, fun h0 => ?_⟩
  obtain ⟨g, off, rfl, k1, k2, k3, k4⟩ := hx h0
  have hg := hb g (by rw [cutB_pos h0])
  refine ⟨g, off, rfl, k1, by omega, fun j hj => (World.cell?_of_block (a := ⟨g, off + j, none⟩) hg).trans (k3 j hj), fun j hj => ⟨?_, ?_⟩⟩
  · rw [World.cell?_of_block (a := ⟨g, off + j, none⟩) hg]; exact (k4 j hj).1
  · rw [World.frozen?_of_block (a := ⟨g, off + j, none⟩) hg]; exact (k4 j hj).2
theorem CutAt.step {M : Nat → Prop} {w w' : World} {size : Nat} {v : Value} {n : Nat} {xs : List Value} (h : CutAt M w size v n xs) (hb : Below w.heap.size w w') : CutAt M w' size v n xs :=
  h.move hb.size (fun b e => hb.block b (h.lt b e).2)
theorem CutAt.lower {M M' : Nat → Prop} {w : World} {size : Nat} {v : Value} {n : Nat} {xs : List Value} (h : CutAt M w size v n xs) (hb : ∀ k, M k → M' k) : CutAt M' w size v n xs := by
  obtain ⟨A, cap, rfl, h1, h2, h3, hx⟩ := h
  refine ⟨A, cap, rfl, h1, h2, h3, fun h0 => ?_⟩
  obtain ⟨g, off, rfl, k1, k2⟩ := hx h0
  exact ⟨g, off, rfl, hb _ k1, k2⟩
theorem CutAt.len {M : Nat → Prop} {w : World} {size : Nat} {v : Value} {n : Nat} {xs : List Value} (h : CutAt M w size v n xs) : xs.length = n * size := by
  obtain ⟨A, cap, rfl, h1, h2, h3, hx⟩ := h
  exact h3
theorem CutAt.shape {M : Nat → Prop} {w : World} {size : Nat} {v : Value} {n : Nat} {xs : List Value} (h : CutAt M w size v n xs) : ∃ A c, v = .slice A n c ∧ n ≤ c ∧ c ≤ maxLen := by
  obtain ⟨A, cap, rfl, h1, h2, h3, hx⟩ := h
  exact ⟨A, cap, rfl, h1, h2⟩
theorem CutAt.rd {M : Nat → Prop} {w : World} {size : Nat} {A : Option Addr} {n c : Nat} {xs : List Value} (h : CutAt M w size (.slice A n c) n xs) : RdC (fun b => M b ∧ b < w.heap.size ∧ some b = cutB (.slice A n c)) w A xs := fun hne => by
  obtain ⟨A', cap, e, h1, h2, h3, hx⟩ := h
  injection e with e1 _ e2
  subst e1 e2
  have hn : 0 < n := by
    rcases Nat.eq_zero_or_pos n with h | h
    · subst h
      exact absurd (List.eq_nil_of_length_eq_zero (by simpa using h3)) hne
    · exact h
  obtain ⟨g, off, rfl, k1, k2, k3, k4⟩ := hx (by omega)
  refine ⟨_, rfl, ⟨k1, k2, by rw [cutB_pos (by omega)]⟩, fun j u hu => ?_⟩
  rw [Addr.add_lit, k3 j (by rw [← h3]; exact (List.getElem?_eq_some_iff.1 hu).1)]
  exact hu
/-- A row that was cut off its first k elements. -/
theorem CutAt.drop {M : Nat → Prop} {w : World} {size : Nat} {A : Option Addr} {n c : Nat} {xs : List Value} (h : CutAt M w size (.slice A n c) n xs) (k : Nat) (hk : k ≤ n) (q : Bool) (hq : q = decide (c ≤ k)) :
    CutAt M w size (.slice (if q = true then A else A.map (·.add (k * size))) (n - k) (c - k)) (n - k) (xs.drop (k * size)) := by
  obtain ⟨A', cap, e, h1, h2, h3, hx⟩ := h
  injection e with e1 _ e2
  subst e1 e2
  refine ⟨_, _, rfl, by omega, by omega, by rw [List.length_drop, h3, Nat.sub_mul], fun h0 => ?_⟩
  have hm : (n - k) * size + k * size = n * size := by rw [← Nat.add_mul, Nat.sub_add_cancel hk]
  have hkc : k ≤ c := by omega
  have hm2 : (c - k) * size + k * size = c * size := by rw [← Nat.add_mul, Nat.sub_add_cancel hkc]
  have hqf : q = false := by rw [hq]; exact decide_eq_false (by omega)
  have hc0 : 0 < c := by omega
  subst hqf
  obtain ⟨g, off, rfl, k1, k2, k3, k4⟩ := hx hc0
  refine ⟨g, off + k * size, by simp [Addr.add_lit], k1, k2, fun j hj => ?_, fun j hj => ?_⟩
  · rw [show off + k * size + j = off + (k * size + j) by omega, k3 (k * size + j) (by omega), List.getElem?_drop]
  · rw [show off + k * size + j = off + (k * size + j) by omega]
    exact k4 (k * size + j) (by omega)
/-- The row v of world w has become v' of world w'. -/
structure Grewc (w : World) (v : Value) (w' : World) (v' : Value) : Prop where
  by_ : w.grownBy w' (cutB v)
  at_ : cutB v' = cutB v ∨ ∃ b, cutB v' = some b ∧ w.heap.size ≤ b
theorem Grewc.refl (w : World) (v : Value) : Grewc w v w v := ⟨World.grownBy.refl _ _, .inl rfl⟩
theorem Grewc.ne {w w' : World} {v v' : Value} {b : Nat} (h : Grewc w v w' v') (hn : some b ≠ cutB v) (hb : b < w.heap.size) : some b ≠ cutB v' := by
  rcases h.at_ with h1 | ⟨g, h1, hg⟩
  · rw [h1]; exact hn
  · rw [h1]; intro e; injection e with e; omega
theorem tape_setCells (g : Nat) : ∀ (vs : List Value) (o : Nat) (w : World), (w.setCells g o vs).tape = w.tape ∧ (w.setCells g o vs).heap.size = w.heap.size
  | [], _, _ => ⟨rfl, rfl⟩
  | v :: vs, o, w => by
    have h := tape_setCells g vs (o + 1) (w.setCell ⟨g, o, none⟩ v)
    exact ⟨h.1.trans rfl, h.2.trans (World.size_setCell _ _ _)⟩
/-- All that was there is as it was, but for some blocks. -/
structure Chg (S : Nat → Prop) (w w' : World) : Prop where
  os : w'.os = w.os
  tape : w'.tape = w.tape
  output : w'.output = w.output
  size : w.heap.size ≤ w'.heap.size
  block : ∀ i, i < w.heap.size → ¬ S i → w'.heap[i]? = w.heap[i]?
theorem Chg.refl (S : Nat → Prop) (w : World) : Chg S w w := ⟨rfl, rfl, rfl, Nat.le_refl _, fun _ _ _ => rfl⟩
theorem Chg.of_below {S : Nat → Prop} {w w' : World} (h : Below w.heap.size w w') : Chg S w w' := ⟨h.os, h.tape, h.output, h.size, fun i hi _ => h.block i hi⟩
theorem Chg.of_grown {S : Nat → Prop} {w w' : World} {row : Option Nat} (h : w.grownBy w' row) (hS : ∀ i, some i = row → S i) : Chg S w w' := ⟨h.os, h.tape, h.output, h.size, fun i hi hn => h.block i hi (fun e => hn (hS i e))⟩
theorem Chg.trans {S S' : Nat → Prop} {w w1 w2 : World} (h : Chg S w w1) (k : Chg S' w1 w2) (hS : ∀ i, i < w.heap.size → S' i → S i) : Chg S w w2 :=
  ⟨k.os.trans h.os, k.tape.trans h.tape, k.output.trans h.output, Nat.le_trans h.size k.size, fun i hi hn => (k.block i (Nat.lt_of_lt_of_le hi h.size) (fun e => hn (hS i hi e))).trans (h.block i hi hn)⟩
theorem Chg.mono {S S' : Nat → Prop} {w w' : World} (h : Chg S w w') (hS : ∀ i, S i → S' i) : Chg S' w w' := ⟨h.os, h.tape, h.output, h.size, fun i hi hn => h.block i hi (fun e => hn (hS i e))⟩
theorem Chg.below {S : Nat → Prop} {B : Nat} {w w' : World} (h : Chg S w w') (hB : B ≤ w.heap.size) (hS : ∀ i, i < w.heap.size → S i → B ≤ i) : Below B w w' :=
  ⟨h.os, h.tape, h.output, h.size, fun i hi => h.block i (by omega) (fun e => by have := hS i (by omega) e; omega)⟩
theorem Chg.setCell {S : Nat → Prop} {w w' : World} (h : Chg S w w') {p : Addr} (v : Value) (hp : S p.block) : Chg S w (w'.setCell p v) :=
  ⟨h.os, h.tape, h.output, by rw [World.size_setCell]; exact h.size, fun i hi hn => (heap_setCell_other _ _ _ _ (fun e => hn (by rw [e]; exact hp))).trans (h.block i hi hn)⟩
theorem grown_set {w : World} {p : Addr} (v : Value) : w.grownBy (w.setCell p v) (some p.block) := ⟨rfl, rfl, rfl, by rw [World.size_setCell]; exact Nat.le_refl _, fun i hi hn => heap_setCell_other _ _ _ _ (fun e => hn (by rw [e]))⟩
/-- A cell that is set to what it holds. -/
theorem setCell_id' {w : World} {g i : Nat} {cs : Array Value} {t : TypeId} {v : Value} (h : w.heap[g]? = some (.cells cs t (0, 0))) (hi : cs[i]? = some v) : w.setCell ⟨g, i, none⟩ v = w := by
  have hg : g < w.heap.size := (Array.getElem?_eq_some_iff.1 h).1
  have he : (w.setCell ⟨g, i, none⟩ v).heap = w.heap := by
    apply Array.ext_getElem?
    intro k
    by_cases hk : k = g
    · subst hk
      rw [heap_setCell_same _ _ _ _ _ _ h, h]
      congr 2
      apply Array.ext_getElem?
      intro j
      rw [Array.getElem?_setIfInBounds]
      split
      · rename_i hj
        subst hj
        rw [if_pos (Array.getElem?_eq_some_iff.1 hi).1, hi]
      · rfl
    · exact heap_setCell_other _ _ _ _ hk
  cases w
  simp only [World.setCell] at he ⊢
  rw [he]
section
variable {P : Program}
/-- append(v, x ..), whatever v was cut from. -/
theorem run_appCut (M : Nat → Prop) (t tx ty e : TypeId) (i : TypeInfo) (z : Value) (size bytes : Nat) (ht : P.underlying t = some (.slice e)) (hi : P.info? e = some i) (hz : i.zero = some z) (hsize : i.size = size) (hby : i.bytes = bytes) (hzs : z.cells.size = size) (hb0 : 0 < bytes)
    {w : World} {v : Value} {n : Nat} {xs : List Value} (hc : CutAt M w size v n xs) (x : Value) (m : Nat) (ys : List Value) (hs : Src P size tx x m ys w) (hl : (n + m) * bytes ≤ 140737488355328) (hbase : ∀ k, w.heap.size ≤ k → M k) :
    ∃ v' w', (Builtin.append_ #[t, tx] ty #[v, x]).run P w = .ok v' w' ∧ CutAt M w' size v' (n + m) (xs ++ ys) ∧ Grewc w v w' v' := by
  have hn : n + m ≤ 140737488355328 := Nat.le_trans (Nat.le_mul_of_pos_right _ hb0) hl
  subst hsize hby
  obtain ⟨A, cap, rfl, hle, hmx, hln, hx⟩ := hc
  have hnl := hs.newsLen
  have hxy : (xs ++ ys).length = (n + m) * i.size := by rw [List.length_append, hln, hnl, Nat.add_mul]
  have h63 : n + m ≤ maxLen := by simp only [maxLen]; omega
  by_cases hroom : n + m ≤ cap
  · rcases Nat.eq_zero_or_pos cap with h0 | h0
    · subst h0
      obtain rfl : m = 0 := by omega
      obtain rfl : ys = [] := List.eq_nil_of_length_eq_zero (by simpa using hnl)
      exact ⟨_, _, run_append_nothing (P := P) w t tx ty e i ht hi A n 0 hle x hs, by rw [List.append_nil]; exact ⟨A, 0, rfl, hle, hmx, hln, hx⟩, Grewc.refl _ _⟩
    · obtain ⟨g, off, rfl, k1, k2, k3, k4⟩ := hx h0
      have hrc : (n + m) * i.size ≤ cap * i.size := Nat.mul_le_mul_right _ hroom
      rw [Nat.add_mul] at hrc
      have hsome : ∀ j, j < ys.length → (w.cell? ⟨g, off + n * i.size + j, none⟩).isSome = true := fun j hj => by
        rw [Nat.add_assoc]; exact (k4 _ (by omega)).1
      have hrun := run_append_room_src (P := P) w t tx ty e i ht hi g off n cap x m ys hs hroom hsome (fun j hj => by rw [Nat.add_assoc]; exact (k4 _ (by omega)).2)
      refine ⟨_, _, hrun, ⟨_, _, rfl, hroom, hmx, hxy, fun _ => ⟨g, off, rfl, k1, by rw [(tape_setCells g ys _ w).2]; exact k2, fun j hj => ?_, fun j hj => ⟨?_, (World.frozen?_setCells g _ _ _ _).trans (k4 j hj).2⟩⟩⟩, ⟨?_, .inl (by rw [cutB_pos h0, cutB_pos h0])⟩⟩
      · rw [Nat.add_mul] at hj
        by_cases hjo : j < n * i.size
        · rw [World.cell?_setCells_out g _ _ _ _ (fun _ _ => Or.inl (by show off + j < off + n * i.size; omega)), List.getElem?_append_left (by omega)]
          exact k3 j hjo
        · have := World.cell?_setCells_in g ys (off + n * i.size) w hsome (j - n * i.size) (by omega)
          rw [show off + n * i.size + (j - n * i.size) = off + j by omega] at this
          rw [this, List.getElem?_append_right (by omega), hln, List.getElem?_eq_getElem (by omega)]
      · by_cases hin : n * i.size ≤ j ∧ j < n * i.size + ys.length
        · have := World.cell?_setCells_in g ys (off + n * i.size) w hsome (j - n * i.size) (by omega)
          rw [show off + n * i.size + (j - n * i.size) = off + j by omega] at this
          rw [this]; rfl
        · rw [World.cell?_setCells_out g _ _ _ _ (fun _ _ => by show off + j < off + n * i.size ∨ off + n * i.size + ys.length ≤ off + j; omega)]
          exact (k4 j hj).1
      · rw [cutB_pos h0]
        exact ⟨World.os_setCells _ _ _ _, (tape_setCells g ys _ w).1, World.output_setCells _ _ _ _, by rw [(tape_setCells g ys _ w).2]; exact Nat.le_refl _, fun k hk hne => World.heap_setCells_other w g _ ys hk (fun e => hne (by rw [e]))⟩
  · have hold : (Builtin.firstCells i.size n (.slice A n cap)).run P w.drew = .ok xs.toArray w.drew := by
      rcases Nat.eq_zero_or_pos cap with h0 | h0
      · subst h0
        obtain rfl : n = 0 := by omega
        obtain rfl : xs = [] := List.eq_nil_of_length_eq_zero (by simpa using hln)
        cases A with
        | none => exact run_firstCells_none w.drew i.size 0 0 0
        | some a' => exact run_firstCells_some w.drew i.size 0 a' 0 0 [] (by simp) (by intro _ _ h'; simp at h')
      · obtain ⟨g, off, rfl, k1, k2, k3, k4⟩ := hx h0
        refine run_firstCells_some w.drew i.size n ⟨g, off, none⟩ n cap xs hln (fun j u hu => ?_)
        rw [Addr.add_lit]
        exact (k3 j (by rw [← hln]; exact (List.getElem?_eq_some_iff.1 hu).1)).trans hu
    have hrun := run_append_grow_src (P := P) w t tx ty e i z ht hi hz A n cap xs hold x m ys hs (by omega) (by omega) (growslice_fits (by omega) hl)
    have hge := grownCap_ge w (n + m) cap e
    have hcm := grownCap_le_maxLen w (n + m) cap e h63
    have hblk : ∀ k, k < w.heap.size → (w.drew.alloc (.cells ((xs ++ ys).toArray ++ Builtin.zeroCells z.cells (grownCap w (n + m) cap e - (n + m))) e)).heap[k]? = w.heap[k]? := fun k hk => Below.heap_alloc w.drew _ k hk
    refine ⟨_, _, hrun, ⟨_, _, rfl, by omega, hcm, hxy, fun _ => ⟨w.heap.size, 0, rfl, hbase _ (Nat.le_refl _), by simp, fun j hj => ?_, fun j hj => ⟨?_, ?_⟩⟩⟩, ⟨⟨rfl, rfl, rfl, by simp, fun k hk _ => hblk k hk⟩, .inr ⟨w.heap.size, cutB_pos (by omega), Nat.le_refl _⟩⟩⟩
    · have e1 : (w.drew.alloc (.cells ((xs ++ ys).toArray ++ Builtin.zeroCells z.cells (grownCap w (n + m) cap e - (n + m))) e)).cell? ⟨w.heap.size, j, none⟩ = _ := World.cell?_alloc_new w.drew _ _ j
      rw [Nat.zero_add, e1, Array.getElem?_append_left (by simp only [List.size_toArray]; omega), List.getElem?_toArray]
    · have e1 : (w.drew.alloc (.cells ((xs ++ ys).toArray ++ Builtin.zeroCells z.cells (grownCap w (n + m) cap e - (n + m))) e)).cell? ⟨w.heap.size, j, none⟩ = _ := World.cell?_alloc_new w.drew _ _ j
      rw [Nat.zero_add, e1]
      have hsz : ((xs ++ ys).toArray ++ Builtin.zeroCells z.cells (grownCap w (n + m) cap e - (n + m))).size = grownCap w (n + m) cap e * i.size := by
        rw [Array.size_append, List.size_toArray, hxy, size_zeroCells, hzs, ← Nat.add_mul]
        congr 1
        omega
      rw [Array.getElem?_eq_getElem (by rw [hsz]; exact hj)]
      rfl
    · rw [Nat.zero_add]; exact World.frozen?_alloc_new w.drew _ _ j
/-- .. FOR THE WALK. -/
theorem wpList_appCut {ops : Array Oper} {rest : List Oper} {o : Oper} {a : Act} {Q : Exit → Act → World → Prop} (M : Nat → Prop) (s x : Operand) (t tx e : TypeId) (i : TypeInfo) (z : Value) (size bytes : Nat) (hgd : o.guard = none)
    (ho : o.op = .call { callee := .builtin .append, args := #[s, x], argTypes := #[t, tx] }) (ht : P.underlying t = some (.slice e)) (hi : P.info? e = some i) (hz : i.zero = some z) (hsize : i.size = size) (hby : i.bytes = bytes) (hzs : z.cells.size = size) (hb0 : 0 < bytes)
    {w : World} {v : Value} {n : Nat} {xs : List Value} (hv : a.eval s = v) (hc : CutAt M w size v n xs) (xv : Value) (m : Nat) (ys : List Value) (hx : a.eval x = xv) (hs : Src P size tx xv m ys w) (hl : (n + m) * bytes ≤ 140737488355328) (hbase : ∀ k, w.heap.size ≤ k → M k)
    (h : ∀ v' w', CutAt M w' size v' (n + m) (xs ++ ys) → Grewc w v w' v' → wpList P ops Q rest (a.put o.dst v') w') : wpList P ops Q (o :: rest) a w := by
  refine wpList_plain hgd fun K hK' => ?_
  obtain ⟨v', w', hrun, h1, h2⟩ := run_appCut (P := P) M t tx o.type e i z size bytes ht hi hz hsize hby hzs hb0 hc xv m ys hs hl hbase
  unfold Oper.wp
  simp [execOp, ho, resolve, invoke, builtin, hv, hx, hrun, Result.andThen]
  exact hK' _ _ (h v' w' h1 h2)
/-- .. for a region that draws its order. -/
theorem step_appCut {ops : Array Oper} {o : Oper} {a : Act} {K : Act → World → Prop} {Q : Exit → Act → World → Prop} {E : Prop} (M : Nat → Prop) (s x : Operand) (t tx e : TypeId) (i : TypeInfo) (z : Value) (size bytes : Nat) (hgd : o.guard = none)
    (ho : o.op = .call { callee := .builtin .append, args := #[s, x], argTypes := #[t, tx] }) (ht : P.underlying t = some (.slice e)) (hi : P.info? e = some i) (hz : i.zero = some z) (hsize : i.size = size) (hby : i.bytes = bytes) (hzs : z.cells.size = size) (hb0 : 0 < bytes)
    {w : World} (v : Value) (n : Nat) (xs : List Value) (hv : a.eval s = v) (hc : CutAt M w size v n xs) (xv : Value) (m : Nat) (ys : List Value) (hx : a.eval x = xv) (hs : Src P size tx xv m ys w) (hl : (n + m) * bytes ≤ 140737488355328) (hbase : ∀ k, w.heap.size ≤ k → M k)
    (h : ∀ v' w', CutAt M w' size v' (n + m) (xs ++ ys) → Grewc w v w' v' → K (a.put o.dst v') w') : if Region.wanted o (yielded ops a.tmps) = true then Oper.wp P o a w K Q else E := by
  rw [if_pos (by simp [Region.wanted, hgd])]
  obtain ⟨v', w', hrun, h1, h2⟩ := run_appCut (P := P) M t tx o.type e i z size bytes ht hi hz hsize hby hzs hb0 hc xv m ys hs hl hbase
  unfold Oper.wp execOp
  simp only [ho, resolve, invoke, builtin, Sem.run_bind, Sem.run_pure, Result.andThen_ok, List.map_toArray, List.map_cons, List.map_nil, hv, hx, hrun]
  exact h v' w' h1 h2
/-- What is appended: a new block's only row. -/
theorem src_new {size : Nat} {tx e' e : TypeId} (hk : P.underlying tx = some (.slice e')) (w : World) (H : Nat) (hH : w.heap.size = H) (cs : Array Value) (hl : cs.toList.length = 1 * size) (h1 : ∀ u ∈ cs.toList, u.oneCell' = true) : Src P size tx (.slice (some ⟨H, 0, none⟩) 1 1) 1 cs.toList (w.alloc (.cells cs e)) := by
  subst hH
  exact Src.ofSlice _ hk _ 1 1 _ hl (World.news_of_block (cs := cs) (t := e) (fr := (0, 0)) (heap_alloc_new w _)) h1
/-- What is appended: a row that is read. -/
theorem src_rd {ok : Nat → Prop} {w : World} {size : Nat} {tx e' : TypeId} (hk : P.underlying tx = some (.slice e')) {A : Option Addr} {m c : Nat} {ys : List Value} (hs0 : 0 < size) (hm : ys.length = m * size) (hR : RdC ok w A ys) (h1 : ∀ u ∈ ys, u.oneCell' = true) : Src P size tx (.slice A m c) m ys w := by
  cases A with
  | none =>
    have hy : ys = [] := by
      cases ys with
      | nil => rfl
      | cons y ys =>
        obtain ⟨ad, e, _⟩ := hR (by simp)
        cases e
    subst hy
    have hm0 : m = 0 := by
      rcases Nat.eq_zero_or_pos m with h | h
      · exact h
      · have := Nat.mul_pos h hs0
        simp at hm
        omega
    subst hm0
    exact Src.ofNil w hk c
  | some ad =>
    refine Src.ofSlice w hk ad m c ys hm (fun j u hu => ?_) h1
    obtain ⟨ad', e, _, hc⟩ := hR (by intro e; rw [e] at hu; simp at hu)
    injection e with e
    subst e
    exact hc j u hu
end
end Go.Proofs.YtipgimmgjdgdeaaDoor
