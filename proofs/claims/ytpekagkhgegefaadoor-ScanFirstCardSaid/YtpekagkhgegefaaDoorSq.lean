/- ScanJoins, ScanFirst: the three rows that the laws lay: bytes, frames, numbers, each in a block of its own. -/
import Derived.Test.YtpekagkhgegefaaDoorSm
import Derived.Test.YtpekagkhgegefaaDoorSp
set_option linter.unusedVariables false
set_option linter.unusedSimpArgs false
set_option linter.unnecessarySimpa false
namespace Go.Proofs.YtpekagkhgegefaaDoor
open Go.RowKit

def izs (zs : List Int) : List Value := zs.map (Value.int .i64)
theorem izs_append (a b : List Int) : izs (a ++ b) = izs a ++ izs b := by simp [izs]
theorem izs_get (zs : List Int) (i : Nat) (h : i < zs.length) : (izs zs)[i]? = some (.int .i64 zs[i]) := by simp [izs, h]
theorem own_of_blockS {w w' : World} {base : Nat} {e : TypeId} {size n : Nat} {v : Value} {xs : List Value} (h : w.ownsRow base e size v n xs) (hb : ∀ k, v.ownBlock = some k → w'.heap[k]? = w.heap[k]?) : w'.ownsRow base e size v n xs := by
  refine ⟨h.1, ?_⟩
  rcases h.2 with ⟨rfl, h0⟩ | ⟨g, cap, cur, rfl, h1, h2, rest⟩
  · exact .inl ⟨rfl, h0⟩
  · exact .inr ⟨g, cap, cur, rfl, h1, (hb g rfl).trans h2, rest⟩
structure Piles (B : Nat) (w : World) (gs : List Fr) (b : Bs) (zs : List Int) (vb vg vz : Value) : Prop where
  bytes : w.ownsRow B 5 1 vb b.length (bvs b)
  frames : ∃ cs, w.ownsRow B 25 10 vg gs.length cs ∧ FrsV (· < B) w gs cs
  ints : w.ownsRow B 3 1 vz zs.length (izs zs)
  bg : ∀ k, vb.ownBlock = some k → vg.ownBlock ≠ some k
  bz : ∀ k, vb.ownBlock = some k → vz.ownBlock ≠ some k
  gz : ∀ k, vg.ownBlock = some k → vz.ownBlock ≠ some k
section
variable {B : Nat} {w w' : World} {gs : List Fr} {b : Bs} {zs : List Int} {vb vg vz : Value}
theorem Piles.on (h : Piles B w gs b zs vb vg vz) (hB : B ≤ w.heap.size) (hb : Below w.heap.size w w') : Piles B w' gs b zs vb vg vz := by
  obtain ⟨cs, h1, h2⟩ := h.frames
  exact ⟨own_below h.bytes hb, ⟨cs, own_below h1 hb, h2.move (fun k hk => hb.block k (by omega))⟩, own_below h.ints hb, h.bg, h.bz, h.gz⟩
theorem Piles.bytesUp (h : Piles B w gs b zs vb vg vz) (hB : B ≤ w.heap.size) {x : Bs} {vb' : Value} (ho : w'.ownsRow B 5 1 vb' (b.length + x.length) (bvs b ++ bvs x)) (hg : Grew w vb w' vb') : Piles B w' gs (b ++ x) zs vb' vg vz := by
  obtain ⟨cs, h1, h2⟩ := h.frames
  have hk : ∀ k, k < w.heap.size → some k ≠ vb.ownBlock → w'.heap[k]? = w.heap[k]? := fun k hk hn => hg.by_.block k hk hn
  have hbb := fun k hk => own_base h.bytes k hk
  refine ⟨by rw [bvs_append, List.length_append]; exact ho, ⟨cs, own_of_blockS h1 (fun k e => hk k (h1.lt k e).2 (fun e2 => h.bg k e2.symm e)), h2.move (fun k e => hk k (by omega) (fun e2 => by have := hbb k e2.symm; omega))⟩, own_of_blockS h.ints (fun k e => hk k (h.ints.lt k e).2 (fun e2 => h.bz k e2.symm e)), fun k e e2 => ?_, fun k e e2 => ?_, h.gz⟩
  · exact hg.ne (fun e3 => h.bg k e3.symm e2) (h1.lt k e2).2 e.symm
  · exact hg.ne (fun e3 => h.bz k e3.symm e2) (h.ints.lt k e2).2 e.symm
theorem Piles.framesUp (h : Piles B w gs b zs vb vg vz) (hB : B ≤ w.heap.size) {cs : List Value} {f : Fr} {A : Option Addr} {c : Nat} {vg' : Value} (hf : FrsV (· < B) w gs cs) (hr : RdC (· < B) w A (bvs f.bytes)) (ho : w'.ownsRow B 25 10 vg' (gs.length + 1) (cs ++ (frCs f A c).toList)) (hg : Grew w vg w' vg') : Piles B w' (gs ++ [f]) b zs vb vg' vz := by
  obtain ⟨cs', h1, _⟩ := h.frames
  have hk : ∀ k, k < w.heap.size → some k ≠ vg.ownBlock → w'.heap[k]? = w.heap[k]? := fun k hk hn => hg.by_.block k hk hn
  have hbb := fun k hk => own_base h1 k hk
  have hlow : ∀ k, k < B → w'.heap[k]? = w.heap[k]? := fun k e => hk k (by omega) (fun e2 => by have := hbb k e2.symm; omega)
  refine ⟨own_of_blockS h.bytes (fun k e => hk k (h.bytes.lt k e).2 (fun e2 => h.bg k e e2.symm)), ⟨_, by rw [List.length_append]; exact ho, .snoc (hf.move hlow) (hr.move hlow)⟩, own_of_blockS h.ints (fun k e => hk k (h.ints.lt k e).2 (fun e2 => h.gz k e2.symm e)), fun k e e2 => ?_, h.bz, fun k e e2 => ?_⟩
  · exact hg.ne (fun e3 => h.bg k e e3.symm) (h.bytes.lt k e).2 e2.symm
  · exact hg.ne (fun e3 => h.gz k e3.symm e2) (h.ints.lt k e2).2 e.symm
theorem Piles.intsUp (h : Piles B w gs b zs vb vg vz) (hB : B ≤ w.heap.size) {z : Int} {vz' : Value} (ho : w'.ownsRow B 3 1 vz' (zs.length + 1) (izs zs ++ [.int .i64 z])) (hg : Grew w vz w' vz') : Piles B w' gs b (zs ++ [z]) vb vg vz' := by
  obtain ⟨cs, h1, h2⟩ := h.frames
  have hk : ∀ k, k < w.heap.size → some k ≠ vz.ownBlock → w'.heap[k]? = w.heap[k]? := fun k hk hn => hg.by_.block k hk hn
  have hbb := fun k hk => own_base h.ints k hk
  refine ⟨own_of_blockS h.bytes (fun k e => hk k (h.bytes.lt k e).2 (fun e2 => h.bz k e e2.symm)), ⟨cs, own_of_blockS h1 (fun k e => hk k (h1.lt k e).2 (fun e2 => h.gz k e e2.symm)), h2.move (fun k e => hk k (by omega) (fun e2 => by have := hbb k e2.symm; omega))⟩, by rw [izs_append, List.length_append]; exact ho, h.bg, fun k e e2 => ?_, fun k e e2 => ?_⟩
  · exact hg.ne (fun e3 => h.bz k e e3.symm) (h.bytes.lt k e).2 e2.symm
  · exact hg.ne (fun e3 => h.gz k e e3.symm) (h1.lt k e).2 e2.symm
end
theorem Piles.bytesAt {B : Nat} {w W w8 : World} {gs : List Fr} {b x : Bs} {zs : List Int} {vb vg vz v8 : Value} (h : Piles B w gs b zs vb vg vz) (hB : B ≤ w.heap.size) (ho : w8.ownsRow B 5 1 v8 (b.length + x.length) (bvs b ++ bvs x)) (hg : Grew W vb w8 v8) (hW : Below w.heap.size w W) :
    Piles B w8 gs (b ++ x) zs v8 vg vz ∧ Below B w w8 ∧ ∀ k, k < w.heap.size → some k ≠ vb.ownBlock → w8.heap[k]? = w.heap[k]? :=
  ⟨(h.on hB hW).bytesUp (Nat.le_trans hB hW.size) ho hg, hg.below (hW.mono hB) (Nat.le_trans hB hW.size) (fun k hk => own_base h.bytes k hk), fun k hk hn => (hg.by_.block k (Nat.lt_of_lt_of_le hk hW.size) hn).trans (hW.block k hk)⟩
theorem Piles.framesAt {B : Nat} {w W w9 : World} {gs : List Fr} {b : Bs} {zs : List Int} {vb vg vz v9 : Value} {cs : List Value} {f : Fr} {A : Option Addr} {c : Nat} (h : Piles B w gs b zs vb vg vz) (hB : B ≤ w.heap.size) (hf : FrsV (· < B) w gs cs) (hr : RdC (· < B) w A (bvs f.bytes)) (ho : w9.ownsRow B 25 10 v9 (gs.length + 1) (cs ++ (frCs f A c).toList)) (hg : Grew W vg w9 v9) (hW : Below w.heap.size w W) :
    Piles B w9 (gs ++ [f]) b zs vb v9 vz ∧ Below B w w9 := by
  obtain ⟨cs', h1, _⟩ := h.frames
  exact ⟨(h.on hB hW).framesUp (Nat.le_trans hB hW.size) (hf.move (fun k hk => hW.block k (by omega))) (hr.move (fun k hk => hW.block k (by omega))) ho hg, hg.below (hW.mono hB) (Nat.le_trans hB hW.size) (fun k hk => own_base h1 k hk)⟩
theorem Piles.intsAt {B : Nat} {w W w9 : World} {gs : List Fr} {b : Bs} {zs : List Int} {vb vg vz v9 : Value} {z : Int} (h : Piles B w gs b zs vb vg vz) (hB : B ≤ w.heap.size) (ho : w9.ownsRow B 3 1 v9 (zs.length + 1) (izs zs ++ [.int .i64 z])) (hg : Grew W vz w9 v9) (hW : Below w.heap.size w W) :
    Piles B w9 gs b (zs ++ [z]) vb vg v9 ∧ Below B w w9 :=
  ⟨(h.on hB hW).intsUp (Nat.le_trans hB hW.size) ho hg, hg.below (hW.mono hB) (Nat.le_trans hB hW.size) (fun k hk => own_base h.ints k hk)⟩
/-- One byte is turned. -/
theorem Piles.turned {B : Nat} {w w' : World} {gs : List Fr} {b C : Bs} {zs : List Int} {g n c : Nat} {vg vz : Value} (h : Piles B w gs b zs (.slice (some ⟨g, 0, none⟩) n c) vg vz) (hc : ∀ k, k ≠ g → w'.heap[k]? = w.heap[k]?) (ho : w'.ownsRow B 5 1 (.slice (some ⟨g, 0, none⟩) n c) C.length (bvs C)) : Piles B w' gs C zs (.slice (some ⟨g, 0, none⟩) n c) vg vz := by
  obtain ⟨cs, h1, h2⟩ := h.frames
  have hg := own_base h.bytes g rfl
  exact ⟨ho, ⟨cs, own_of_blockS h1 (fun k e => hc k (fun e2 => h.bg g rfl (by rw [← e2]; exact e))), h2.move (fun k hk => hc k (by omega))⟩, own_of_blockS h.ints (fun k e => hc k (fun e2 => h.bz g rfl (by rw [← e2]; exact e))), h.bg, h.bz, h.gz⟩
/-- A number that was laid. -/
theorem Piles.int {B : Nat} {w : World} {gs : List Fr} {b : Bs} {zs : List Int} {vb vg : Value} {A : Option Addr} {n c : Nat} (h : Piles B w gs b zs vb vg (.slice A n c)) (hn : n = zs.length) (k : Nat) (hk : k < zs.length) : ∃ ad, A = some ad ∧ ad.block < w.heap.size ∧ w.cell? (ad.add k) = some (.int .i64 zs[k]) := by
  subst hn
  have hcel := izs_get zs k hk
  obtain ⟨zd, rfl, hzdb, hzc⟩ := RdC.of_own h.ints (by intro e; rw [e] at hcel; simp at hcel)
  exact ⟨zd, rfl, hzdb.2, hzc k _ hcel⟩
/-- Where each frame ends; where each begins. -/
def endsOf (gs : List Fr) : List Int := (List.range gs.length).map fun k => ((endE gs (k + 1) : Nat) : Int)
def startsOf (gs : List Fr) : List Int := (List.range gs.length).map fun k => ((endE gs k : Nat) : Int)
theorem endE_snoc (gs : List Fr) (f : Fr) (k : Nat) (h : k ≤ gs.length) : endE (gs ++ [f]) k = endE gs k := by
  unfold endE
  rw [List.take_append_of_le_length h]
theorem endsOf_len (gs : List Fr) : (endsOf gs).length = gs.length := by simp [endsOf]
theorem startsOf_len (gs : List Fr) : (startsOf gs).length = gs.length := by simp [startsOf]
theorem endsOf_get (gs : List Fr) (k : Nat) (h : k < (endsOf gs).length) : (endsOf gs)[k] = ((endE gs (k + 1) : Nat) : Int) := by simp [endsOf]
theorem startsOf_get (gs : List Fr) (k : Nat) (h : k < (startsOf gs).length) : (startsOf gs)[k] = ((endE gs k : Nat) : Int) := by simp [startsOf]
theorem endsOf_snoc (gs : List Fr) (f : Fr) : endsOf (gs ++ [f]) = endsOf gs ++ [(((gs ++ [f]).flatMap putF).length : Int)] := by
  unfold endsOf
  rw [List.length_append, List.length_singleton, List.range_succ, List.map_append]
  congr 1
  · apply List.map_congr_left
    intro k hk
    have := List.mem_range.1 hk
    rw [endE_snoc _ _ _ (by omega)]
  · have h := endE_all (gs ++ [f])
    rw [List.length_append, List.length_singleton] at h
    simp only [List.map_cons, List.map_nil, h]
theorem startsOf_snoc (gs : List Fr) (f : Fr) : startsOf (gs ++ [f]) = startsOf gs ++ [((gs.flatMap putF).length : Int)] := by
  unfold startsOf
  rw [List.length_append, List.length_singleton, List.range_succ, List.map_append]
  congr 1
  · apply List.map_congr_left
    intro k hk
    have := List.mem_range.1 hk
    rw [endE_snoc _ _ _ (by omega)]
  · simp only [List.map_cons, List.map_nil, endE_snoc _ _ _ (Nat.le_refl _), endE_all]
theorem flat_snoc (gs : List Fr) (f : Fr) : (gs ++ [f]).flatMap putF = gs.flatMap putF ++ putF f := by simp
theorem flat_le (gs : List Fr) (h : ∀ f ∈ gs, checkF f = true) : (gs.flatMap putF).length ≤ 607 * gs.length := by
  induction gs with
  | nil => simp
  | cons f gs ih =>
    have h1 := ih (fun g hg => h g (List.mem_cons_of_mem _ hg))
    have h2 := put_len f
    have h3 := body_len (h f (List.mem_cons_self ..))
    simp only [List.flatMap_cons, List.length_append, List.length_cons]
    omega
theorem FrsV.takeS {ok : Nat → Prop} {w : World} {fs : List Fr} {cs : List Value} (h : FrsV ok w fs cs) (m : Nat) : FrsV ok w (fs.take m) (cs.take (m * 10)) := by
  induction h with
  | nil => simpa using FrsV.nil
  | snoc h hr ih =>
    rename_i fs cs f A c
    have hl := h.len
    by_cases hm : m ≤ fs.length
    · rw [List.take_append_of_le_length hm, List.take_append_of_le_length (by omega)]
      exact ih
    · rw [List.take_of_length_le (by simp; omega), List.take_of_length_le (by rw [List.length_append, hl]; show _ + 10 ≤ _; omega)]
      exact .snoc h hr
theorem RdFs.takeS {w : World} {A : Option Addr} {fs : List Fr} (h : RdFs w A fs) (m : Nat) : RdFs w A (fs.take m) := by
  obtain ⟨cs, h1, h2⟩ := h
  exact ⟨cs.take (m * 10), h1.take _, h2.takeS m⟩
theorem FrsV.dropS {ok : Nat → Prop} {w : World} {fs : List Fr} {cs : List Value} (h : FrsV ok w fs cs) (m : Nat) : FrsV ok w (fs.drop m) (cs.drop (m * 10)) := by
  induction h with
  | nil => simpa using FrsV.nil
  | snoc h hr ih =>
    rename_i fs cs f A c
    have hl := h.len
    by_cases hm : m ≤ fs.length
    · rw [List.drop_append_of_le_length hm, List.drop_append_of_le_length (by omega)]
      exact .snoc ih hr
    · rw [List.drop_eq_nil_of_le (by simp; omega), List.drop_eq_nil_of_le (by rw [List.length_append, hl]; show _ + 10 ≤ _; omega)]
      exact .nil
theorem RdFs.dropS {w : World} {A : Option Addr} {fs : List Fr} (h : RdFs w A fs) (m c : Nat) (hc : fs.length ≤ c) : RdFs w (if c = m then A else A.map (·.add (m * 10))) (fs.drop m) := by
  obtain ⟨cs, h1, h2⟩ := h
  refine ⟨cs.drop (m * 10), ?_, h2.dropS m⟩
  have h3 := h1.drop (m * 10) (decide (c = m)) (fun e => by have := of_decide_eq_true e; have := h2.len; omega)
  by_cases e : c = m
  · rw [if_pos e]
    rw [if_pos (decide_eq_true e)] at h3
    exact h3
  · rw [if_neg e]
    rw [if_neg (by simp [e])] at h3
    exact h3
theorem Piles.rdF {B : Nat} {w : World} {gs : List Fr} {b : Bs} {zs : List Int} {vb vz : Value} {A : Option Addr} {c : Nat} (h : Piles B w gs b zs vb (.slice A gs.length c) vz) (hB : B ≤ w.heap.size) : RdFs w A gs := by
  obtain ⟨cs, h1, h2⟩ := h.frames
  exact ⟨cs, (RdC.of_own h1).mono (fun k hk => hk.2), h2.mono (fun k hk => by omega)⟩

section
variable {P : Program} {ops : Array Oper} {o : Oper} {a : Act} {K : Act → World → Prop} {Q : Exit → Act → World → Prop} {E : Prop}
/-- A frame is laid behind a row of frames: a step of a region that draws its order. -/
theorem step_appF {w : World} (base : Nat) (s x : Operand) (t e : TypeId) (i : TypeInfo) (z : Value) (size bytes : Nat) (hgd : o.guard = none)
    (ho : o.op = .call { callee := .builtin .append, args := #[s, x], argTypes := #[t, t] }) (ht : P.underlying t = some (.slice e)) (hi : P.info? e = some i) (hz : i.zero = some z)
    (hsize : i.size = size) (hby : i.bytes = bytes) (hzs : z.cells.size = size) (hs0 : 0 < size) (hb0 : 0 < bytes) (v : Value) (n : Nat) (xs : List Value) (hs : a.eval s = v) (hown : w.ownsRow base e size v n xs)
    (g : Nat) (ys : List Value) (hx : a.eval x = .slice (some ⟨g, 0, none⟩) 1 1) (hm : ys.length = size) (hg : w.heap[g]? = some (.cells ys.toArray e (0, 0))) (h1 : ∀ u ∈ ys, u.oneCell' = true) (hl : (n + 1) * bytes ≤ 140737488355328) (hbase : base ≤ w.heap.size)
    (h : ∀ v' w', w'.ownsRow base e size v' (n + 1) (xs ++ ys) → Grew w v w' v' → K (a.put o.dst v') w') : if Region.wanted o (yielded ops a.tmps) = true then Oper.wp P o a w K Q else E :=
  step_appS (ok := fun _ => True) w base s x t e i z size bytes hgd ho ht hi hz hsize hby hzs hs0 hb0 v n xs hs hown (some ⟨g, 0, none⟩) 1 1 ys hx (by omega) (fun _ => ⟨_, rfl, trivial, World.news_of_block (cs := ys.toArray) (t := e) (fr := (0, 0)) hg⟩) h1 hl hbase h
end
end Go.Proofs.YtpekagkhgegefaaDoor
