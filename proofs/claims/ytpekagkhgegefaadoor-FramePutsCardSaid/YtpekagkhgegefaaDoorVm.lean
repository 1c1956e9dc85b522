/- Walks of package frame: set, where it is told whence the bytes are (turned from the second part). -/
import Derived.Test.YtpekagkhgegefaaDoorVb
set_option linter.unusedVariables false
set_option linter.unusedSimpArgs false
set_option linter.unnecessarySimpa false
namespace Go.Proofs.YtpekagkhgegefaaDoor
open Go.RowKit
attribute [local go_sem] run_store_flt

/-- A frame in block B; its bytes lie elsewhere. -/
def FrAtB (W : World) (base B : Nat) (o : Fr) : Prop := ∃ A c, W.heap[B]? = some (.cells (frCs o A c) 25 (0, 0)) ∧ RdC (fun b => base ≤ b ∧ b ≠ B ∧ b < W.heap.size) W A (bvs o.bytes) ∧ o.bytes.length ≤ c
def SetPB (W : World) (base B : Nat) (o : Fr) (e : Ending) (W' : World) : Prop := e = .returned (.tuple #[]) ∧ W.grownBy W' (some B) ∧ FrAtB W' base B o
theorem setB_post {W : World} {base B : Nat} {o o' : Fr} {A : Option Addr} {c : Nat} (ob : Obj) (i : Nat) (v : Value) (hh : W.heap[B]? = some (.cells (frCs o A c) 25 (0, 0))) (hR : RdC (fun b => base ≤ b ∧ b ≠ B ∧ b < W.heap.size) W A (bvs o.bytes)) (hc : o.bytes.length ≤ c)
    (hv : (frCs o A c).setIfInBounds i v = frCs o' A c) (hb : o'.bytes = o.bytes) : SetPB W base B o' (.returned (.tuple #[])) ((W.setCell ⟨B, i, none⟩ v).alloc ob) := by
  have hB : B < W.heap.size := (Array.getElem?_eq_some_iff.1 hh).1
  have hs : (W.setCell ⟨B, i, none⟩ v).heap.size = W.heap.size := by simp
  refine ⟨rfl, ⟨rfl, rfl, rfl, by simp, fun k hk hn => ?_⟩, A, c, ?_, ?_, by rw [hb]; exact hc⟩
  · rw [heap_alloc_old _ _ (by rw [hs]; exact hk), heap_setCell_other _ _ _ _ (fun e => hn (by rw [e]))]
  · rw [heap_alloc_old _ _ (by rw [hs]; exact hB), heap_setCell_same _ _ _ _ _ _ hh, hv]
  · rw [hb]
    refine (hR.move (w' := (W.setCell ⟨B, i, none⟩ v).alloc ob) fun b hk => ?_).mono fun b hk => ⟨hk.1, hk.2.1, by simp; omega⟩
    rw [heap_alloc_old _ _ (by rw [hs]; exact hk.2.2), heap_setCell_other _ _ _ _ hk.2.1]
set_option maxHeartbeats 3200000 in
theorem setB_any1 (W : World) (base B : Nat) (o : Fr) (x : Nat) (c : Cell) (hx : x < 8) (hbs : base ≤ W.heap.size) (h : FrAtB W base B o) : Calls Tryd.prog 41 #[.pointer (some ⟨B, 0, none⟩), .int .i64 x, cellV c] W (SetPB W base B (setF o x c)) := by
  obtain ⟨A, cp, hh, hR, hc⟩ := h
  have hB : B < W.heap.size := (Array.getElem?_eq_some_iff.1 hh).1
  have hf : ∀ j, W.frozen? ⟨B, j, none⟩ = false := fun j => frozen_of_row W B j _ _ hh
  have c0 : ∀ j, W.cell? ⟨B, j, none⟩ = (frCs o A cp)[j]? := fun j => cell_of_row _ _ _ _ _ _ hh
  have c1 := c0 1
  have c2 := c0 2
  have c3 := c0 3
  have c4 := c0 4
  have c5 := c0 5
  have c6 := c0 6
  have c7 := c0 7
  have c8 := c0 8
  have f1 := hf 1
  have f2 := hf 2
  have f3 := hf 3
  have f4 := hf 4
  have f5 := hf 5
  have f6 := hf 6
  have f7 := hf 7
  have f8 := hf 8
  have HP := Lib.hid (fun ob i v o' hv hb => setB_post (o' := o') ob i v hh hR hc hv hb)
  clear hf c0 hh hR
  simp only [frCs, List.getElem?_toArray, List.getElem?_cons_succ, List.getElem?_cons_zero] at c1 c2 c3 c4 c5 c6 c7 c8
  unfold cellV
  rcases eight hx with h | h | h | h | h | h | h | h <;> subst h
  all_goals
    go_enter Tryd.func41, Tryd.ntmps41
    go_wp2
    go_end0
    refine HP.out _ _ _ (setF o _ c) ?_ ?_ <;> rfl
set_option maxHeartbeats 3200000 in
theorem setB_any8 (W : World) (base B : Nat) (o : Fr) (c : Cell) (hbs : base ≤ W.heap.size) (h : FrAtB W base B o) : Calls Tryd.prog 41 #[.pointer (some ⟨B, 0, none⟩), .int .i64 8, cellV c] W (SetPB W base B (setF o 8 c)) := by
  obtain ⟨A, cp, hh, hR, hc⟩ := h
  obtain ⟨n, fl, s⟩ := c
  have hB : B < W.heap.size := (Array.getElem?_eq_some_iff.1 hh).1
  have hcv := Lib.run_convert_string_bytes (P := Tryd.prog) (W.alloc (.cells #[.int .i64 n, .float .f64 fl, .string s] 83)) 9 23 5 s Tryd.underlying9 Tryd.underlying23 Tryd.underlying5
  have hsz := Lib.bytesWorld_size (W.alloc (.cells #[.int .i64 n, .float .f64 fl, .string s] 83)) 5 s
  have hold := Lib.bytesWorld_at_old (W.alloc (.cells #[.int .i64 n, .float .f64 fl, .string s] 83)) 5 s
  have hnew := Lib.bytesWorld_cell (W.alloc (.cells #[.int .i64 n, .float .f64 fl, .string s] 83)) 5 s
  have hos : (Lib.bytesWorld (W.alloc (.cells #[.int .i64 n, .float .f64 fl, .string s] 83)) 5 s).os = W.os ∧ (Lib.bytesWorld (W.alloc (.cells #[.int .i64 n, .float .f64 fl, .string s] 83)) 5 s).tape = W.tape ∧ (Lib.bytesWorld (W.alloc (.cells #[.int .i64 n, .float .f64 fl, .string s] 83)) 5 s).output = W.output := ⟨rfl, rfl, rfl⟩
  have hgc : s.size ≤ grownCap (W.alloc (.cells #[.int .i64 n, .float .f64 fl, .string s] 83)) s.size 0 5 := grownCap_ge _ _ _ _
  generalize grownCap (W.alloc (.cells #[.int .i64 n, .float .f64 fl, .string s] 83)) s.size 0 5 = K at *
  generalize Lib.bytesWorld (W.alloc (.cells #[.int .i64 n, .float .f64 fl, .string s] 83)) 5 s = W2 at *
  have hz1 : (W.alloc (.cells #[.int .i64 n, .float .f64 fl, .string s] 83)).heap.size = W.heap.size + 1 := by simp
  rw [hz1] at hsz hold hnew hcv
  have hh2 : W2.heap[B]? = some (.cells (frCs o A cp) 25 (0, 0)) := (hold B (by omega)).trans ((heap_alloc_old _ _ hB).trans hh)
  have c9 : W2.cell? ⟨B, 9, none⟩ = some (.slice A o.bytes.length cp) := (cell_of_row _ _ _ _ _ _ hh2).trans rfl
  have f9 : W2.frozen? ⟨B, 9, none⟩ = false := frozen_of_row W2 B 9 _ _ hh2
  have hpost : SetPB W base B (setF o 8 ⟨n, fl, s⟩) (.returned (.tuple #[])) (W2.setCell ⟨B, 9, none⟩ (.slice (some ⟨W.heap.size + 1, 0, none⟩) s.size K)) := by
    refine ⟨rfl, ⟨hos.1, hos.2.1, hos.2.2, by simp; omega, fun k hk hn => ?_⟩, some ⟨W.heap.size + 1, 0, none⟩, K, ?_, ?_, by show s.data.toList.length ≤ K; rw [Array.length_toList]; exact hgc⟩
    · rw [heap_setCell_other _ _ _ _ (fun e => hn (by rw [e])), hold k (by omega), heap_alloc_old _ _ hk]
    · rw [heap_setCell_same _ _ _ _ _ _ hh2]
      rw [show (setF o 8 ⟨n, fl, s⟩) = { o with bytes := s.data.toList } from rfl]
      unfold frCs
      rw [show ({ o with bytes := s.data.toList } : Fr).bytes.length = s.size from Array.length_toList]
      rfl
    · refine fun _ => ⟨_, rfl, ⟨by show base ≤ W.heap.size + 1; omega, by show W.heap.size + 1 ≠ B; omega, by simp; omega⟩, fun j u hj => ?_⟩
      have hj' : (bvs s.data.toList)[j]? = some u := hj
      have hll : s.data.toList.length = s.size := Array.length_toList
      generalize s.data.toList = l at hj' hnew hll
      have hjl : j < l.length := by
        have := (List.getElem?_eq_some_iff.1 hj').1
        rw [bvs_length] at this
        exact this
      have hj2 := hnew j (by rw [← hll]; exact hjl)
      have hu : u = .int .u8 (l.getD j 0).toNat := by
        rw [bvs_get _ _ hjl] at hj'
        rw [← Option.some.inj hj', List.getD_eq_getElem?_getD, List.getElem?_eq_getElem hjl]
        rfl
      have hadd : (⟨W.heap.size + 1, 0, none⟩ : Addr).add j = ⟨W.heap.size + 1, j, none⟩ := by
        unfold Addr.add
        by_cases h0 : j = 0 <;> simp [h0]
      rw [hadd, hu]
      exact (World.cell?_setCell_far _ _ _ _ (by show B ≠ W.heap.size + 1; omega)).trans hj2
  have HP := Lib.hid hpost
  clear hpost hh hR hh2 hold hnew hos hsz hgc hc hz1
  unfold cellV
  go_enter Tryd.func41, Tryd.ntmps41
  go_wp2
  go_end0
  exact HP.out
theorem setFB_any (W : World) (base B : Nat) (o : Fr) (x : Nat) (c : Cell) (hx : x < 9) (hbs : base ≤ W.heap.size) (h : FrAtB W base B o) : Calls Tryd.prog 41 #[.pointer (some ⟨B, 0, none⟩), .int .i64 x, cellV c] W (SetPB W base B (setF o x c)) := by
  by_cases h8 : x < 8
  · exact setB_any1 W base B o x c h8 hbs h
  · obtain rfl : x = 8 := by omega
    exact setB_any8 W base B o c hbs h
theorem FrAtB.lt {W : World} {base B : Nat} {o : Fr} (h : FrAtB W base B o) : B < W.heap.size := by
  obtain ⟨A, c, h, _⟩ := h
  exact (Array.getElem?_eq_some_iff.1 h).1
theorem FrAtB.below {W W' : World} {base B : Nat} {o : Fr} (h : FrAtB W base B o) (hb : Below W.heap.size W W') : FrAtB W' base B o := by
  have hB := h.lt
  obtain ⟨A, c, h1, h2, h3⟩ := h
  exact ⟨A, c, (hb.block B hB).trans h1, (h2.move (fun b hk => hb.block b hk.2.2)).mono (fun b hk => ⟨hk.1, hk.2.1, Nat.lt_of_lt_of_le hk.2.2 hb.size⟩), h3⟩
theorem FrAtB.new (w : World) (base : Nat) (k : Int) : FrAtB (w.alloc (.cells (frCs (Fr.of k) none 0) 25)) base w.heap.size (Fr.of k) :=
  ⟨none, 0, heap_alloc_new _ _, RdC.nil _ _ _, Nat.le_refl _⟩
/-- The lengths of what is set. -/
theorem setF_lens {o : Fr} (x : Nat) {c : Cell} (h : o.lens) (hc : c.s.size ≤ 100000) : (setF o x c).lens := by
  unfold setF
  split
  all_goals (try exact ⟨h.who, h.name, h.bytes⟩)
  · exact ⟨by show c.s.size ≤ _; omega, h.name, h.bytes⟩
  · exact ⟨h.who, by show c.s.size ≤ _; omega, h.bytes⟩
  · exact ⟨h.who, h.name, by show c.s.data.toList.length ≤ _; rw [Array.length_toList]; exact Nat.le_trans hc (by omega)⟩
theorem setAll_lens : ∀ (l : List Nat) (cs : List Cell) (o : Fr), o.lens → (∀ c ∈ cs, c.s.size ≤ 100000) → (setAll o l cs).lens
  | [], cs, o, h, _ => by cases cs <;> exact h
  | y :: l, [], o, h, _ => h
  | y :: l, c :: cs, o, h, hc => setAll_lens l cs _ (setF_lens y h (hc c (by simp))) (fun d hd => hc d (by simp [hd]))
theorem setAll_snoc : ∀ (l : List Nat) (cs : List Cell) (o : Fr) (j : Nat) (h1 : j < l.length) (h2 : j < cs.length), setAll o (l.take (j + 1)) (cs.take (j + 1)) = setF (setAll o (l.take j) (cs.take j)) l[j] cs[j]
  | [], _, _, _, h, _ => absurd h (by simp)
  | _ :: _, [], _, _, _, h => absurd h (by simp)
  | y :: l, c :: cs, o, 0, _, _ => by
    simp only [List.take_succ_cons, List.take_zero, setAll, List.getElem_cons_zero]
  | y :: l, c :: cs, o, j + 1, h1, h2 => by
    simp only [List.take_succ_cons, setAll, List.getElem_cons_succ]
    exact setAll_snoc l cs _ j (by simpa using h1) (by simpa using h2)
theorem size_le_cost : ∀ (cs : List Cell) (c : Cell), c ∈ cs → c.s.size ≤ cost cs
  | c :: cs, d, h => by
    have e : cost (c :: cs) = 8 + c.s.size + cost cs := by simp [cost]
    rcases List.mem_cons.1 h with rfl | h
    · omega
    · have := size_le_cost cs d h
      omega
end Go.Proofs.YtpekagkhgegefaaDoor
