/- Words of memory that all walks of this seat use: a row of the call's own that grows, cells that are read, sentinel errors. Plain theorems over any program. -/
import Derived.WalkKit
import Derived.WalkSpells
import Derived.WalkLawsBesides
import Derived.Maps.AppendAt
import Derived.Deep.AppendLies
import Derived.Lib.AppendStr
import Derived.Lib.ConvBytes
import Derived.Lib.Hide
import Derived.LaidEql
import Derived.WideLaws
namespace Go.Proofs.YtipgimmgjdgdeaaDoor
open Go.RowKit

abbrev Bs := List UInt8
def bv (b : UInt8) : Value := .int .u8 (b.toNat : Int)
def bvs (bs : Bs) : List Value := bs.map bv
@[simp] theorem bvs_length (bs : Bs) : (bvs bs).length = bs.length := by simp [bvs]
theorem bvs_append (a b : Bs) : bvs (a ++ b) = bvs a ++ bvs b := by simp [bvs]
theorem bvs_get (bs : Bs) (i : Nat) (h : i < bs.length) : (bvs bs)[i]? = some (bv bs[i]) := by simp [bvs, h]
theorem bvs_one (bs : Bs) (u : Value) (h : u ∈ bvs bs) : u.oneCell' = true := by
  obtain ⟨b, _, rfl⟩ := List.mem_map.1 h
  rfl
theorem strCells_bvs (s : ByteArray) : Lib.strCells s = bvs s.data.toList := by
  simp [Lib.strCells, bvs, bv]

theorem u64_nat (n : Nat) (h : n < 18446744073709551616) : IntKind.u64.wrap (n : Int) = n := by simp [IntKind.wrap, IntKind.bits, IntKind.signed]; omega

/-! ### Frames -/
theorem below_grown {B : Nat} {w0 w w' : World} (h : Below B w0 w) {row : Option Nat} (hB : B ≤ w.heap.size) (hg : w.grownBy w' row) (hr : ∀ k, row = some k → B ≤ k) : Below B w0 w' := h.grown hg hB hr
theorem below_then {B : Nat} {w w1 w2 : World} (h : Below B w w1) (hB : B ≤ w1.heap.size) (k : Below w1.heap.size w1 w2) : Below B w w2 :=
  h.trans ⟨k.os, k.tape, k.output, k.size, fun i hi => k.block i (Nat.lt_of_lt_of_le hi hB)⟩
theorem below_drewN {B : Nat} {w W : World} (h : Below B w W) (n : Nat) : Below B w (W.drewN n) := ⟨h.os, h.tape, h.output, h.size, h.block⟩
theorem grown_of_below {w w1 : World} (h : Below w.heap.size w w1) (row : Option Nat) : w.grownBy w1 row := ⟨h.os, h.tape, h.output, h.size, fun i hi _ => h.block i hi⟩
theorem below_of_grown {B : Nat} {w w1 : World} {row : Option Nat} (h : w.grownBy w1 row) (hB : B ≤ w.heap.size) (hr : ∀ k, row = some k → B ≤ k) : Below B w w1 :=
  ⟨h.os, h.tape, h.output, h.size, fun i hi => h.block i (by omega) (fun e => by have := hr i e.symm; omega)⟩
theorem grown_drewN {w W : World} {row : Option Nat} (h : w.grownBy W row) (n : Nat) : w.grownBy (W.drewN n) row := ⟨h.os, h.tape, h.output, h.size, h.block⟩
theorem grown_below {w w1 w2 : World} {row : Option Nat} (h : w.grownBy w1 row) (k : Below w1.heap.size w1 w2) : w.grownBy w2 row :=
  ⟨k.os.trans h.os, k.tape.trans h.tape, k.output.trans h.output, Nat.le_trans h.size k.size, fun i hi hn => (k.block i (Nat.lt_of_lt_of_le hi h.size)).trans (h.block i hi hn)⟩
theorem below_then_grown {w w1 w2 : World} {row : Option Nat} (h : Below w.heap.size w w1) (k : w1.grownBy w2 row) : w.grownBy w2 row :=
  ⟨k.os.trans h.os, k.tape.trans h.tape, k.output.trans h.output, Nat.le_trans h.size k.size, fun i hi hn => (k.block i (Nat.lt_of_lt_of_le hi h.size) hn).trans (h.block i hi)⟩

/-! ### A row of the call's own that grows -/
/-- The row v of world w has become v' of world w': nothing else that was there has turned; v' lies where v lay, or in a new block. -/
structure Grew (w : World) (v : Value) (w' : World) (v' : Value) : Prop where
  by_ : w.grownBy w' v.ownBlock
  at_ : v'.ownBlock = v.ownBlock ∨ ∃ b, v'.ownBlock = some b ∧ w.heap.size ≤ b
theorem Grew.refl (w : World) (v : Value) : Grew w v w v := ⟨World.grownBy.refl _ _, .inl rfl⟩
theorem Grew.trans {w w1 w2 : World} {v v1 v2 : Value} (h : Grew w v w1 v1) (k : Grew w1 v1 w2 v2) : Grew w v w2 v2 := by
  have hs := h.by_.size
  constructor
  · refine ⟨k.by_.os.trans h.by_.os, k.by_.tape.trans h.by_.tape, k.by_.output.trans h.by_.output, Nat.le_trans hs k.by_.size, fun i hi hn => ?_⟩
    refine (k.by_.block i (by omega) fun e => ?_).trans (h.by_.block i hi hn)
    rcases h.at_ with h1 | ⟨b, h1, hb⟩
    · exact hn (e.trans h1)
    · rw [h1] at e
      injection e with e
      omega
  · rcases k.at_ with h2 | ⟨b, h2, hb⟩
    · rw [h2]; exact h.at_
    · exact .inr ⟨b, h2, by omega⟩
theorem Grew.below {B : Nat} {w0 w w' : World} {v v' : Value} (h : Grew w v w' v') (hb : Below B w0 w) (hB : B ≤ w.heap.size) (hv : ∀ k, v.ownBlock = some k → B ≤ k) : Below B w0 w' := below_grown hb hB h.by_ hv
theorem Grew.then_below {w w1 w2 : World} {v v1 : Value} (h : Grew w v w1 v1) (k : Below w1.heap.size w1 w2) : Grew w v w2 v1 := ⟨grown_below h.by_ k, h.at_⟩
theorem Grew.drewN {w w1 : World} {v v1 : Value} (h : Grew w v w1 v1) (n : Nat) : Grew w v (w1.drewN n) v1 := ⟨grown_drewN h.by_ n, h.at_⟩
theorem Grew.of_below {w w1 w2 : World} {v v1 : Value} (h : Below w.heap.size w w1) (k : Grew w1 v w2 v1) : Grew w v w2 v1 := by
  refine ⟨below_then_grown h k.by_, ?_⟩
  rcases k.at_ with h1 | ⟨b, h1, hb⟩
  · exact .inl h1
  · exact .inr ⟨b, h1, Nat.le_trans h.size hb⟩
theorem Grew.of_alloc {w w' : World} {v v' : Value} {o : Obj} (h : Grew (w.alloc o) v w' v') : Grew w v w' v' := Grew.of_below ((Below.refl _ _).alloc (Nat.le_refl _) _) h
theorem Grew.of_drewN {w w' : World} {v v' : Value} {n : Nat} (h : Grew (w.drewN n) v w' v') : Grew w v w' v' := Grew.of_below (below_drewN (Below.refl _ _) _) h
theorem Grew.cell {w w' : World} {v v' x : Value} {a : Addr} (h : Grew w v w' v') (hc : w.cell? a = some x) (hn : some a.block ≠ v.ownBlock) : w'.cell? a = some x := h.by_.cell hc hn
theorem Grew.ne {w w' : World} {v v' : Value} {b : Nat} (h : Grew w v w' v') (hn : some b ≠ v.ownBlock) (hb : b < w.heap.size) : some b ≠ v'.ownBlock := by
  rcases h.at_ with h1 | ⟨g, h1, hg⟩
  · rw [h1]; exact hn
  · rw [h1]; intro e; injection e with e; omega
theorem own_below {w w1 : World} {base : Nat} {e : TypeId} {size n : Nat} {v : Value} {xs : List Value} (h : w.ownsRow base e size v n xs) (hb : Below w.heap.size w w1) : w1.ownsRow base e size v n xs :=
  h.kept (grown_of_below hb none) (by cases v.ownBlock <;> simp)
theorem own_base {w : World} {base : Nat} {e : TypeId} {size n : Nat} {v : Value} {xs : List Value} (h : w.ownsRow base e size v n xs) (k : Nat) (hk : v.ownBlock = some k) : base ≤ k := (h.lt k hk).1
theorem own_lower {w : World} {base base' : Nat} {e : TypeId} {size n : Nat} {v : Value} {xs : List Value} (h : w.ownsRow base e size v n xs) (hb : base' ≤ base) : w.ownsRow base' e size v n xs := by
  refine ⟨h.1, ?_⟩
  rcases h.2 with h | ⟨g, cap, cur, h1, h2, h3⟩
  · exact .inl h
  · exact .inr ⟨g, cap, cur, h1, by omega, h3⟩

/-! ### Cells that are read -/
/-- From address A on lie the cells cs; the blocks that are looked at are all in 'ok'. -/
def RdC (ok : Nat → Prop) (w : World) (A : Option Addr) (cs : List Value) : Prop :=
  cs ≠ [] → ∃ ad, A = some ad ∧ ok ad.block ∧ ∀ j u, cs[j]? = some u → w.cell? (ad.add j) = some u
theorem RdC.nil (ok : Nat → Prop) (w : World) (A : Option Addr) : RdC ok w A [] := fun h => absurd rfl h
theorem add_block (a : Addr) (n : Nat) : (a.add n).block = a.block := by unfold Addr.add; split <;> rfl
theorem add_add (a : Addr) (i j : Nat) : (a.add i).add j = a.add (i + j) := by
  unfold Addr.add
  by_cases hi : i = 0 <;> by_cases hj : j = 0 <;> simp [hi, hj, Nat.add_assoc]
theorem add_field (ad : Addr) (m j : Nat) (hj : 0 < j) : ad.add (m + j) = ⟨(ad.add m).block, (ad.add m).off + j, none⟩ := by
  unfold Addr.add
  rw [if_neg (by omega)]
  by_cases hm : m = 0 <;> simp [hm, Nat.add_assoc]
theorem RdC.move {ok : Nat → Prop} {w w' : World} {A : Option Addr} {cs : List Value} (h : RdC ok w A cs) (hm : ∀ b, ok b → w'.heap[b]? = w.heap[b]?) : RdC ok w' A cs := fun hn => by
  obtain ⟨ad, e, hb, hc⟩ := h hn
  exact ⟨ad, e, hb, fun j u hu => (World.cell?_of_block (by rw [add_block]; exact hm _ hb)).trans (hc j u hu)⟩
theorem RdC.mono {ok ok' : Nat → Prop} {w : World} {A : Option Addr} {cs : List Value} (h : RdC ok w A cs) (hm : ∀ b, ok b → ok' b) : RdC ok' w A cs := fun hn => by
  obtain ⟨ad, e, hb, hc⟩ := h hn
  exact ⟨ad, e, hm _ hb, hc⟩
theorem RdC.below {B : Nat} {w w' : World} {A : Option Addr} {cs : List Value} (h : RdC (· < B) w A cs) (hb : Below B w w') : RdC (· < B) w' A cs := h.move fun b hk => hb.block b hk
theorem RdC.drop {ok : Nat → Prop} {w : World} {ad : Option Addr} {cs : List Value} (h : RdC ok w ad cs) (k : Nat) (q : Bool) (hq : q = true → cs.length ≤ k) : RdC ok w (if q = true then ad else ad.map (·.add k)) (cs.drop k) := fun hn => by
  have hk : k < cs.length := by
    rcases Nat.lt_or_ge k cs.length with h1 | h1
    · exact h1
    · exact absurd (List.drop_eq_nil_of_le h1) hn
  have hqf : q = false := by
    cases q
    · rfl
    · exact absurd (hq rfl) (by omega)
  obtain ⟨a, rfl, hb, hc⟩ := h (by intro e; simp [e] at hk)
  subst hqf
  refine ⟨a.add k, rfl, by rw [add_block]; exact hb, fun j u hu => ?_⟩
  rw [add_add]
  exact hc _ u (by rw [← hu, List.getElem?_drop])
theorem RdC.take {ok : Nat → Prop} {w : World} {ad : Option Addr} {cs : List Value} (h : RdC ok w ad cs) (k : Nat) : RdC ok w ad (cs.take k) := fun hn => by
  obtain ⟨a, rfl, hb, hc⟩ := h (by intro e; simp [e] at hn)
  refine ⟨a, rfl, hb, fun j u hu => hc j u ?_⟩
  rw [List.getElem?_take] at hu
  split at hu
  · exact hu
  · cases hu
theorem RdC.of_own {w : World} {base : Nat} {e : TypeId} {size n c : Nat} {A : Option Addr} {xs : List Value} (h : w.ownsRow base e size (.slice A n c) n xs) : RdC (fun b => base ≤ b ∧ b < w.heap.size) w A xs := fun hn => by
  rcases h.2 with ⟨he, h0⟩ | ⟨g, cap, cur, he, hb, hh, _⟩
  · exact absurd h0 (by
      intro h1
      exact hn (List.eq_nil_of_length_eq_zero (by have := h.1; simp [h1] at this; simpa using this)))
  · have hA : A = some ⟨g, 0, none⟩ := by injection he
    subst hA
    exact ⟨_, rfl, ⟨hb, (Array.getElem?_eq_some_iff.1 hh).1⟩, h.cells (g := g) rfl⟩
/-- What a new block holds. -/
theorem RdC.new (w : World) (cs : Array Value) (t : TypeId) : RdC (fun b => b = w.heap.size) (w.alloc (.cells cs t)) (some ⟨w.heap.size, 0, none⟩) cs.toList := fun _ =>
  ⟨_, rfl, rfl, World.news_of_block (cs := cs) (t := t) (fr := (0, 0)) (heap_alloc_new w _)⟩
theorem RdC.step {w w' : World} {A : Option Addr} {cs : List Value} (h : RdC (· < w.heap.size) w A cs) (hb : Below w.heap.size w w') : RdC (· < w'.heap.size) w' A cs :=
  (h.below hb).mono fun _ hk => Nat.lt_of_lt_of_le hk hb.size
/-- The shape of whatever is owned. -/
theorem own_slice {w : World} {base n : Nat} {e : TypeId} {size : Nat} {v : Value} {xs : List Value} (h : w.ownsRow base e size v n xs) : ∃ A c, v = .slice A n c ∧ n ≤ c ∧ n ≤ maxLen := by
  rcases h.2 with ⟨rfl, rfl⟩ | ⟨g, cap, cur, rfl, h1, h2, h3, h4, _⟩
  · exact ⟨none, 0, rfl, Nat.le_refl _, by simp⟩
  · exact ⟨_, cap, rfl, h3, by omega⟩

/-- string(b), b a row that is read. -/
theorem run_str_of {P : Program} {w : World} {src dst e : TypeId} (hs : P.underlying src = some (.slice e)) (he : P.underlying e = some (.int .u8)) (hd : P.underlying dst = some .string)
    {ok : Nat → Prop} {A : Option Addr} {n c : Nat} {bs : Bs} (hn : n = bs.length) (h : RdC ok w A (bvs bs)) : (convert src dst (.slice A n c)).run P w = .ok (.string ⟨bs.toArray⟩) w := by
  subst hn
  cases A with
  | none =>
    have hb : bs = [] := by
      cases bs with
      | nil => rfl
      | cons b bs =>
        obtain ⟨ad, e, _⟩ := h (by simp [bvs])
        cases e
    subst hb
    exact run_convert_bytes_nil w src e hs he _ _ dst hd
  | some ad =>
    have hl : (loadCells ad bs.length).run P w = .ok ((bs.map fun b => (b.toNat : Int)).map (Value.int .u8)).toArray w := by
      have := run_loadCells_list (P := P) w ad (bvs bs) (fun j v hj => by
        obtain ⟨ad', e, _, hc⟩ := h (by intro e; rw [e] at hj; simp at hj)
        injection e with e
        subst e
        exact hc j v hj)
      rw [bvs_length] at this
      rw [this]
      simp [bvs, bv]
    rw [run_convert_bytes_string w src dst e _ _ c hs he hd, run_bytesToString w _ _ c _ hl, foldl_push_bytes]
    have e1 : ((fun n : Int => UInt8.ofNat n.toNat) ∘ fun b : UInt8 => (b.toNat : Int)) = id := by funext b; simp
    simp [ByteArray.empty, ByteArray.emptyWithCapacity, e1]
    rfl
/-- A float is stored as every value of one cell is. -/
theorem run_store_flt (P : Program) (w : World) (a : Addr) (m : Mode) (k : FloatKind) (b : Nat) : (store a (.float k b) m).run P w = stored P w a (.float k b) m := run_store P w a _ m rfl

/-! ### append -/
section
variable {P : Program} {ops : Array Oper} {rest : List Oper} {o : Oper} {a : Act} {Q : Exit → Act → World → Prop}
/-- append(v, y): behind 'at_builtin'. -/
theorem wpList_app1 {W : World} (base : Nat) (s x : Operand) (t e : TypeId) (i : TypeInfo) (z : Value) (bytes : Nat) (hgd : o.guard = none)
    (ho : o.op = .call { callee := .builtin .append, args := #[s, x], argTypes := #[t, t] }) (ht : P.underlying t = some (.slice e))
    (hi : P.info? e = some i) (hz : i.zero = some z) (hsize : i.size = 1) (hby : i.bytes = bytes) (hzs : z.cells.size = 1) (hb0 : 0 < bytes)
    (v : Value) (n : Nat) (xs : List Value) (y : Value) (hs : a.eval s = v) (H : Nat) (hH : W.heap.size = H) (hx : a.eval x = .slice (some ⟨H, 0, none⟩) 1 1)
    (HO : W.ownsRow base e 1 v n xs) (h1 : y.oneCell' = true) (hl : (n + 1) * bytes ≤ 140737488355328) (hbase : base ≤ W.heap.size)
    (h : ∀ v' w', w'.ownsRow base e 1 v' (n + 1) (xs ++ [y]) → Grew W v w' v' → wpList P ops Q rest (a.put o.dst v') w') :
    wpList P ops Q (o :: rest) a (W.alloc (.cells #[y] e)) := by
  subst hH
  have hn : n + 1 ≤ 140737488355328 := Nat.le_trans (Nat.le_mul_of_pos_right _ hb0) hl
  refine wpList_append_own_at _ hgd s x t ho base e i z 1 bytes ht hi hz hsize hby hzs (by omega) v n xs hs (HO.alloc _) _ 1 1 [y] hx rfl (cell_one_new W y e) (by simpa using h1)
    (by unfold maxLen; omega) hl (by simp; omega) ?_
  intro v' w' hown hg _ hat
  refine h v' w' hown ⟨(World.grownBy_alloc W _ _).trans hg, ?_⟩
  rcases hat with hat | hat
  · exact .inl hat
  · exact .inr ⟨_, hat, by simp⟩
end

section
variable {P : Program} {ops : Array Oper} {rest : List Oper} {o : Oper} {a : Act} {Q : Exit → Act → World → Prop}
/-- append(v, T{..}): an element of several cells; behind 'at_builtin'. -/
theorem wpList_appN {W : World} (base : Nat) (s x : Operand) (t e : TypeId) (i : TypeInfo) (z : Value) (size bytes : Nat) (hgd : o.guard = none)
    (ho : o.op = .call { callee := .builtin .append, args := #[s, x], argTypes := #[t, t] }) (ht : P.underlying t = some (.slice e))
    (hi : P.info? e = some i) (hz : i.zero = some z) (hsize : i.size = size) (hby : i.bytes = bytes) (hzs : z.cells.size = size) (hs0 : 0 < size) (hb0 : 0 < bytes)
    (v : Value) (n : Nat) (xs ys : List Value) (hs : a.eval s = v) (H : Nat) (hH : W.heap.size = H) (hx : a.eval x = .slice (some ⟨H, 0, none⟩) 1 1)
    (HO : W.ownsRow base e size v n xs) (hys : ys.length = size) (h1 : ∀ u ∈ ys, u.oneCell' = true) (hl : (n + 1) * bytes ≤ 140737488355328) (hbase : base ≤ W.heap.size)
    (h : ∀ v' w', w'.ownsRow base e size v' (n + 1) (xs ++ ys) → Grew W v w' v' → wpList P ops Q rest (a.put o.dst v') w') :
    wpList P ops Q (o :: rest) a (W.alloc (.cells ys.toArray e)) := by
  subst hH
  have hn : n + 1 ≤ 140737488355328 := Nat.le_trans (Nat.le_mul_of_pos_right _ hb0) hl
  refine wpList_append_own_at _ hgd s x t ho base e i z size bytes ht hi hz hsize hby hzs hs0 v n xs hs (HO.alloc _) _ 1 1 ys hx (by omega)
    (World.news_of_block (cs := ys.toArray) (t := e) (fr := (0, 0)) (heap_alloc_new W _)) h1
    (by unfold maxLen; omega) hl (by simp; omega) ?_
  intro v' w' hown hg _ hat
  refine h v' w' hown ⟨(World.grownBy_alloc W _ _).trans hg, ?_⟩
  rcases hat with hat | hat
  · exact .inl hat
  · exact .inr ⟨_, hat, by simp⟩
end

section
variable {P : Program} (w : World)
/-- append(v, s...), s a string: where the new row lies, too. -/
theorem run_append_str (base : Nat) (t u ty e : TypeId) (i : TypeInfo) (ht : P.underlying t = some (.slice e)) (hu : P.underlying u = some .string) (hi : P.info? e = some i) (hz : i.zero = some (.int .u8 0))
    (hsize : i.size = 1) (hby : i.bytes = 1) (v : Value) (xs : Bs) (hown : w.ownsRow base e 1 v xs.length (bvs xs)) (s : ByteArray) (hbytes : xs.length + s.size ≤ 140737488355328) (hbase : base ≤ w.heap.size) :
    ∃ v' w', (Builtin.append_ #[t, u] ty #[v, .string s]).run P w = .ok v' w' ∧ w'.ownsRow base e 1 v' (xs ++ s.data.toList).length (bvs (xs ++ s.data.toList)) ∧ Grew w v w' v' := by
  obtain ⟨v', w', hr, ho, hg, hn⟩ := Lib.run_append_own_string (P := P) w base t u ty e i ht hu hi hz hsize hby v xs.length (bvs xs) hown s (by unfold maxLen; omega) hbytes hbase
  have hss : s.size = s.data.toList.length := Array.length_toList.symm
  refine ⟨v', w', hr, ?_, hg, ?_⟩
  · rw [bvs_append, ← strCells_bvs, List.length_append, ← hss]
    exact ho
  · rcases hown.2 with ⟨rfl, _⟩ | ⟨g, cap, cur, rfl, hb, hh, hnc, hcm, hcs, htk⟩
    · by_cases hm : s.size = 0
      · rw [hn.2 ⟨rfl, hm⟩]; exact .inl rfl
      · rcases ho.2 with ⟨h1, _⟩ | ⟨g', cap', cur', h1, _, hh', _⟩
        · exact absurd (hn.1 h1).2 hm
        · refine .inr ⟨g', by rw [h1]; rfl, ?_⟩
          have hx : xs = [] := List.eq_nil_of_length_eq_zero (by omega)
          subst hx
          have hr2 := run_append_nil_string (P := P) w t u ty e i (.int .u8 0) ht hu hi hz s (by omega) (by omega) (by rw [hby]; simp only [List.length_nil] at hbytes; omega)
          rw [hr] at hr2
          injection hr2 with hr2 _
          rw [h1] at hr2
          injection hr2 with hr2 _ _
          injection hr2 with hr2
          injection hr2 with hr2 _ _
          omega
    · by_cases hroom : xs.length + s.size ≤ cap
      · have hr2 := Lib.run_append_room_string (P := P) w t u ty e i ht hu hi hsize g xs.length cap cur hh s hroom (by omega)
        rw [hr] at hr2
        injection hr2 with hr2 _
        rw [hr2]; exact .inl rfl
      · have hr2 := Lib.run_append_grow_string (P := P) w t u ty e i (.int .u8 0) ht hu hi hz ⟨g, 0, none⟩ xs.length cap (bvs xs) (by rw [hsize]; simp) (hown.cells (g := g) rfl) s (by omega) (by omega)
          (by rw [hby]; exact growslice_fits (by omega) (by omega))
        rw [hr] at hr2
        injection hr2 with hr2 _
        rw [hr2]; exact .inr ⟨_, rfl, Nat.le_refl _⟩
theorem wp_appStr {o : Oper} {a : Act} {K : Act → World → Prop} {Q : Exit → Act → World → Prop} (base : Nat) (s x : Operand) (t u e : TypeId) (i : TypeInfo)
    (ho : o.op = .call { callee := .builtin .append, args := #[s, x], argTypes := #[t, u] }) (ht : P.underlying t = some (.slice e)) (hu : P.underlying u = some .string) (hi : P.info? e = some i) (hz : i.zero = some (.int .u8 0))
    (hsize : i.size = 1) (hby : i.bytes = 1) (v : Value) (xs : Bs) (st : ByteArray) (hs : a.eval s = v) (hx : a.eval x = .string st) (hown : w.ownsRow base e 1 v xs.length (bvs xs)) (hbytes : xs.length + st.size ≤ 140737488355328) (hbase : base ≤ w.heap.size)
    (h : ∀ v' w', w'.ownsRow base e 1 v' (xs ++ st.data.toList).length (bvs (xs ++ st.data.toList)) → Grew w v w' v' → K (a.put o.dst v') w') : o.wp P a w K Q := by
  obtain ⟨v', w', hr, h1, h2⟩ := run_append_str (P := P) w base t u o.type e i ht hu hi hz hsize hby v xs hown st hbytes hbase
  unfold Oper.wp execOp
  simp only [ho, resolve, invoke, builtin, Sem.run_bind, Sem.run_pure, Result.andThen_ok, List.map_toArray, List.map_cons, List.map_nil, hs, hx, hr]
  exact h v' w' h1 h2
theorem step_appStr {ops : Array Oper} {o : Oper} {a : Act} {K : Act → World → Prop} {Q : Exit → Act → World → Prop} {E : Prop} (base : Nat) (s x : Operand) (t u e : TypeId) (i : TypeInfo) (hgd : o.guard = none)
    (ho : o.op = .call { callee := .builtin .append, args := #[s, x], argTypes := #[t, u] }) (ht : P.underlying t = some (.slice e)) (hu : P.underlying u = some .string) (hi : P.info? e = some i) (hz : i.zero = some (.int .u8 0))
    (hsize : i.size = 1) (hby : i.bytes = 1) (v : Value) (xs : Bs) (st : ByteArray) (hs : a.eval s = v) (hx : a.eval x = .string st) (hown : w.ownsRow base e 1 v xs.length (bvs xs)) (hbytes : xs.length + st.size ≤ 140737488355328) (hbase : base ≤ w.heap.size)
    (h : ∀ v' w', w'.ownsRow base e 1 v' (xs ++ st.data.toList).length (bvs (xs ++ st.data.toList)) → Grew w v w' v' → K (a.put o.dst v') w') :
    if Region.wanted o (yielded ops a.tmps) = true then Oper.wp P o a w K Q else E := by
  rw [if_pos (by simp [Region.wanted, hgd])]
  exact wp_appStr w base s x t u e i ho ht hu hi hz hsize hby v xs st hs hx hown hbytes hbase h
theorem wpList_appStr {ops : Array Oper} {rest : List Oper} {o : Oper} {a : Act} {Q : Exit → Act → World → Prop} (base : Nat) (s x : Operand) (t u e : TypeId) (i : TypeInfo) (hgd : o.guard = none)
    (ho : o.op = .call { callee := .builtin .append, args := #[s, x], argTypes := #[t, u] }) (ht : P.underlying t = some (.slice e)) (hu : P.underlying u = some .string) (hi : P.info? e = some i) (hz : i.zero = some (.int .u8 0))
    (hsize : i.size = 1) (hby : i.bytes = 1) (v : Value) (xs : Bs) (st : ByteArray) (hs : a.eval s = v) (hx : a.eval x = .string st) (hown : w.ownsRow base e 1 v xs.length (bvs xs)) (hbytes : xs.length + st.size ≤ 140737488355328) (hbase : base ≤ w.heap.size)
    (h : ∀ v' w', w'.ownsRow base e 1 v' (xs ++ st.data.toList).length (bvs (xs ++ st.data.toList)) → Grew w v w' v' → wpList P ops Q rest (a.put o.dst v') w') : wpList P ops Q (o :: rest) a w :=
  wpList_plain hgd fun _ hK => wp_appStr w base s x t u e i ho ht hu hi hz hsize hby v xs st hs hx hown hbytes hbase fun v' w' h1 h2 => hK _ _ (h v' w' h1 h2)
end

section
variable {P : Program} (w : World)
/-- append(v, s...), s a row that is read, nil let in. -/
theorem run_appS {ok : Nat → Prop} (base : Nat) (t ty e : TypeId) (i : TypeInfo) (z : Value) (size bytes : Nat) (ht : P.underlying t = some (.slice e)) (hi : P.info? e = some i) (hz : i.zero = some z)
    (hsize : i.size = size) (hby : i.bytes = bytes) (hzs : z.cells.size = size) (hs0 : 0 < size) (hb0 : 0 < bytes) (v : Value) (n : Nat) (xs : List Value) (hown : w.ownsRow base e size v n xs)
    (A : Option Addr) (m c : Nat) (ys : List Value) (hm : ys.length = m * size) (hR : RdC ok w A ys) (h1 : ∀ u ∈ ys, u.oneCell' = true) (hl : (n + m) * bytes ≤ 140737488355328) (hbase : base ≤ w.heap.size) :
    ∃ v' w', (Builtin.append_ #[t, t] ty #[v, .slice A m c]).run P w = .ok v' w' ∧ w'.ownsRow base e size v' (n + m) (xs ++ ys) ∧ Grew w v w' v' := by
  have hn : n + m ≤ 140737488355328 := Nat.le_trans (Nat.le_mul_of_pos_right _ hb0) hl
  cases A with
  | none =>
    have hy : ys = [] := by
      cases ys with
      | nil => rfl
      | cons y ys =>
        obtain ⟨ad, e, _⟩ := hR (by simp)
        cases e
    subst hy
    have hm0 : m = 0 := by
      rcases Nat.eq_zero_or_pos m with h | h
      · exact h
      · have := Nat.mul_pos h hs0
        simp at hm
        omega
    subst hm0
    refine ⟨v, w, ?_, by simpa using hown, Grew.refl _ _⟩
    rcases hown.2 with ⟨rfl, rfl⟩ | ⟨g, cap, cur, rfl, _, _, hnc, _⟩
    · simp [Builtin.append_, run_underlying ht, sizeOf, typeInfo, hi, Builtin.lenOf, Builtin.firstCells]
    · simp [Builtin.append_, run_underlying ht, sizeOf, typeInfo, hi, Builtin.lenOf, Builtin.firstCells, hnc, storeCells]
  | some ad =>
    obtain ⟨v', w', hr, h2, h3, _, h5⟩ := run_append_own_at (P := P) w base t ty e i z size bytes ht hi hz hsize hby hzs hs0 v n xs hown ad m c ys hm (fun j u hu => by
      obtain ⟨ad', e, _, hc⟩ := hR (by intro e; rw [e] at hu; simp at hu)
      injection e with e
      subst e
      exact hc j u hu) h1 (by unfold maxLen; omega) hl hbase
    refine ⟨v', w', hr, h2, h3, ?_⟩
    rcases h5 with h | h
    · exact .inl h
    · exact .inr ⟨_, h, Nat.le_refl _⟩
theorem wp_appS {ok : Nat → Prop} {o : Oper} {a : Act} {K : Act → World → Prop} {Q : Exit → Act → World → Prop} (base : Nat) (s x : Operand) (t e : TypeId) (i : TypeInfo) (z : Value) (size bytes : Nat)
    (ho : o.op = .call { callee := .builtin .append, args := #[s, x], argTypes := #[t, t] }) (ht : P.underlying t = some (.slice e)) (hi : P.info? e = some i) (hz : i.zero = some z)
    (hsize : i.size = size) (hby : i.bytes = bytes) (hzs : z.cells.size = size) (hs0 : 0 < size) (hb0 : 0 < bytes) (v : Value) (n : Nat) (xs : List Value) (hs : a.eval s = v) (hown : w.ownsRow base e size v n xs)
    (A : Option Addr) (m c : Nat) (ys : List Value) (hx : a.eval x = .slice A m c) (hm : ys.length = m * size) (hR : RdC ok w A ys) (h1 : ∀ u ∈ ys, u.oneCell' = true) (hl : (n + m) * bytes ≤ 140737488355328) (hbase : base ≤ w.heap.size)
    (h : ∀ v' w', w'.ownsRow base e size v' (n + m) (xs ++ ys) → Grew w v w' v' → K (a.put o.dst v') w') : o.wp P a w K Q := by
  obtain ⟨v', w', hr, h2, h3⟩ := run_appS (P := P) w base t o.type e i z size bytes ht hi hz hsize hby hzs hs0 hb0 v n xs hown A m c ys hm hR h1 hl hbase
  unfold Oper.wp execOp
  simp only [ho, resolve, invoke, builtin, Sem.run_bind, Sem.run_pure, Result.andThen_ok, List.map_toArray, List.map_cons, List.map_nil, hs, hx, hr]
  exact h v' w' h2 h3
theorem wpList_appS {ok : Nat → Prop} {ops : Array Oper} {rest : List Oper} {o : Oper} {a : Act} {Q : Exit → Act → World → Prop} (base : Nat) (s x : Operand) (t e : TypeId) (i : TypeInfo) (z : Value) (size bytes : Nat) (hgd : o.guard = none)
    (ho : o.op = .call { callee := .builtin .append, args := #[s, x], argTypes := #[t, t] }) (ht : P.underlying t = some (.slice e)) (hi : P.info? e = some i) (hz : i.zero = some z)
    (hsize : i.size = size) (hby : i.bytes = bytes) (hzs : z.cells.size = size) (hs0 : 0 < size) (hb0 : 0 < bytes) (v : Value) (n : Nat) (xs : List Value) (hs : a.eval s = v) (hown : w.ownsRow base e size v n xs)
    (A : Option Addr) (m c : Nat) (ys : List Value) (hx : a.eval x = .slice A m c) (hm : ys.length = m * size) (hR : RdC ok w A ys) (h1 : ∀ u ∈ ys, u.oneCell' = true) (hl : (n + m) * bytes ≤ 140737488355328) (hbase : base ≤ w.heap.size)
    (h : ∀ v' w', w'.ownsRow base e size v' (n + m) (xs ++ ys) → Grew w v w' v' → wpList P ops Q rest (a.put o.dst v') w') : wpList P ops Q (o :: rest) a w :=
  wpList_plain hgd fun _ hK => wp_appS w base s x t e i z size bytes ho ht hi hz hsize hby hzs hs0 hb0 v n xs hs hown A m c ys hx hm hR h1 hl hbase fun v' w' h2 h3 => hK _ _ (h v' w' h2 h3)
theorem step_appS {ok : Nat → Prop} {ops : Array Oper} {o : Oper} {a : Act} {K : Act → World → Prop} {Q : Exit → Act → World → Prop} {E : Prop} (base : Nat) (s x : Operand) (t e : TypeId) (i : TypeInfo) (z : Value) (size bytes : Nat) (hgd : o.guard = none)
    (ho : o.op = .call { callee := .builtin .append, args := #[s, x], argTypes := #[t, t] }) (ht : P.underlying t = some (.slice e)) (hi : P.info? e = some i) (hz : i.zero = some z)
    (hsize : i.size = size) (hby : i.bytes = bytes) (hzs : z.cells.size = size) (hs0 : 0 < size) (hb0 : 0 < bytes) (v : Value) (n : Nat) (xs : List Value) (hs : a.eval s = v) (hown : w.ownsRow base e size v n xs)
    (A : Option Addr) (m c : Nat) (ys : List Value) (hx : a.eval x = .slice A m c) (hm : ys.length = m * size) (hR : RdC ok w A ys) (h1 : ∀ u ∈ ys, u.oneCell' = true) (hl : (n + m) * bytes ≤ 140737488355328) (hbase : base ≤ w.heap.size)
    (h : ∀ v' w', w'.ownsRow base e size v' (n + m) (xs ++ ys) → Grew w v w' v' → K (a.put o.dst v') w') : if Region.wanted o (yielded ops a.tmps) = true then Oper.wp P o a w K Q else E := by
  rw [if_pos (by simp [Region.wanted, hgd])]
  exact wp_appS w base s x t e i z size bytes ho ht hi hz hsize hby hzs hs0 hb0 v n xs hs hown A m c ys hx hm hR h1 hl hbase h
/-- .. behind a guard. -/
theorem step_appSg {ok : Nat → Prop} {ops : Array Oper} {o : Oper} {a : Act} {K : Act → World → Prop} {Q : Exit → Act → World → Prop} {E : Prop} (base : Nat) (s x : Operand) (t e : TypeId) (i : TypeInfo) (z : Value) (size bytes : Nat) (hw : Region.wanted o (yielded ops a.tmps) = true)
    (ho : o.op = .call { callee := .builtin .append, args := #[s, x], argTypes := #[t, t] }) (ht : P.underlying t = some (.slice e)) (hi : P.info? e = some i) (hz : i.zero = some z)
    (hsize : i.size = size) (hby : i.bytes = bytes) (hzs : z.cells.size = size) (hs0 : 0 < size) (hb0 : 0 < bytes) (v : Value) (n : Nat) (xs : List Value) (hs : a.eval s = v) (hown : w.ownsRow base e size v n xs)
    (A : Option Addr) (m c : Nat) (ys : List Value) (hx : a.eval x = .slice A m c) (hm : ys.length = m * size) (hR : RdC ok w A ys) (h1 : ∀ u ∈ ys, u.oneCell' = true) (hl : (n + m) * bytes ≤ 140737488355328) (hbase : base ≤ w.heap.size)
    (h : ∀ v' w', w'.ownsRow base e size v' (n + m) (xs ++ ys) → Grew w v w' v' → K (a.put o.dst v') w') : if Region.wanted o (yielded ops a.tmps) = true then Oper.wp P o a w K Q else E := by
  rw [if_pos hw]
  exact wp_appS w base s x t e i z size bytes ho ht hi hz hsize hby hzs hs0 hb0 v n xs hs hown A m c ys hx hm hR h1 hl hbase h
end

end Go.Proofs.YtipgimmgjdgdeaaDoor
