/- Walks of package frame, second part: Layout, cell, set. -/
import Derived.Test.YtpekagkhgegefaaDoorVw
set_option linter.unusedVariables false
set_option linter.unusedSimpArgs false
set_option linter.unnecessarySimpa false
namespace Go.Proofs.YtpekagkhgegefaaDoor
open Go.RowKit
attribute [local go_sem] run_store_flt

theorem eight {x : Nat} (h : x < 8) : x = 0 ∨ x = 1 ∨ x = 2 ∨ x = 3 ∨ x = 4 ∨ x = 5 ∨ x = 6 ∨ x = 7 := by omega
theorem frCs_get (f : Fr) (A : Option Addr) (c : Nat) : (frCs f A c).size = 10 := rfl
set_option maxHeartbeats 1600000 in
theorem cell_any1 (f : Fr) (A : Option Addr) (c x : Nat) (hx : x < 8) (w : World) : Calls Tryd.prog 42 #[frV f A c, .int .i64 x] w (CellRP f x w) := by
  unfold frV
  rcases eight hx with h | h | h | h | h | h | h | h <;> subst h
  all_goals
    go_enter Tryd.func42, Tryd.ntmps42
    go_wp2
    exact bodyPost_ret (v := cellV (cellF f _)) (by simp [results, Tryd.results42, go_sem, cellV, cellF, noS]) rfl ⟨rfl, by repeat (first | exact Below.refl _ _ | refine Below.alloc ?_ (by simp) _ | refine Below.setCell ?_ (by simp) _)⟩
set_option maxHeartbeats 1600000 in
theorem cell_any8 (f : Fr) (A : Option Addr) (c : Nat) (w : World) (hR : RdC (· < w.heap.size) w A (bvs f.bytes)) : Calls Tryd.prog 42 #[frV f A c, .int .i64 8] w (CellRP f 8 w) := by
  have hcv : (convert 23 9 (.slice A f.bytes.length c)).run Tryd.prog ((w.alloc (.cells (frCs f A c) 25)).alloc (.cells #[.int .i64 0, .float .f64 0, .string ⟨#[]⟩] 83)) = .ok (.string ⟨f.bytes.toArray⟩) ((w.alloc (.cells (frCs f A c) 25)).alloc (.cells #[.int .i64 0, .float .f64 0, .string ⟨#[]⟩] 83)) :=
    run_str_of Tryd.underlying23 Tryd.underlying5 Tryd.underlying9 rfl (hR.move (fun b hb => ((Below.refl w.heap.size w).alloc (Nat.le_refl _) _ |>.alloc (by simp) _).block b hb))
  unfold frCs at hcv
  unfold frV
  go_enter Tryd.func42, Tryd.ntmps42
  go_wp2
  exact bodyPost_ret (v := cellV (cellF f 8)) (by simp [results, Tryd.results42, go_sem, cellV, cellF, noS]) rfl ⟨rfl, by repeat (first | exact Below.refl _ _ | refine Below.alloc ?_ (by simp) _ | refine Below.setCell ?_ (by simp) _)⟩
theorem cellF_any (f : Fr) (A : Option Addr) (c x : Nat) (hx : x < 9) (w : World) (hR : RdC (· < w.heap.size) w A (bvs f.bytes)) : Calls Tryd.prog 42 #[frV f A c, .int .i64 x] w (CellRP f x w) := by
  by_cases h : x < 8
  · exact cell_any1 f A c x h w
  · obtain rfl : x = 8 := by omega
    exact cell_any8 f A c w hR

/-- A frame in block B; its bytes lie elsewhere. -/
def FrAt (W : World) (B : Nat) (o : Fr) : Prop := ∃ A c, W.heap[B]? = some (.cells (frCs o A c) 25 (0, 0)) ∧ RdC (fun b => b ≠ B ∧ b < W.heap.size) W A (bvs o.bytes) ∧ o.bytes.length ≤ c
def SetP (W : World) (B : Nat) (o : Fr) (e : Ending) (W' : World) : Prop := e = .returned (.tuple #[]) ∧ W.grownBy W' (some B) ∧ FrAt W' B o
theorem set_post {W : World} {B : Nat} {o o' : Fr} {A : Option Addr} {c : Nat} (ob : Obj) (i : Nat) (v : Value) (hh : W.heap[B]? = some (.cells (frCs o A c) 25 (0, 0))) (hR : RdC (fun b => b ≠ B ∧ b < W.heap.size) W A (bvs o.bytes)) (hc : o.bytes.length ≤ c)
    (hv : (frCs o A c).setIfInBounds i v = frCs o' A c) (hb : o'.bytes = o.bytes) : SetP W B o' (.returned (.tuple #[])) ((W.setCell ⟨B, i, none⟩ v).alloc ob) := by
  have hB : B < W.heap.size := (Array.getElem?_eq_some_iff.1 hh).1
  have hs : (W.setCell ⟨B, i, none⟩ v).heap.size = W.heap.size := by simp
  refine ⟨rfl, ⟨rfl, rfl, rfl, by simp, fun k hk hn => ?_⟩, A, c, ?_, ?_, by rw [hb]; exact hc⟩
  · rw [heap_alloc_old _ _ (by rw [hs]; exact hk), heap_setCell_other _ _ _ _ (fun e => hn (by rw [e]))]
  · rw [heap_alloc_old _ _ (by rw [hs]; exact hB), heap_setCell_same _ _ _ _ _ _ hh, hv]
  · rw [hb]
    refine (hR.move (w' := (W.setCell ⟨B, i, none⟩ v).alloc ob) fun b hk => ?_).mono fun b hk => ⟨hk.1, by simp; omega⟩
    rw [heap_alloc_old _ _ (by rw [hs]; exact hk.2), heap_setCell_other _ _ _ _ hk.1]
set_option maxHeartbeats 3200000 in
theorem set_any1 (W : World) (B : Nat) (o : Fr) (x : Nat) (c : Cell) (hx : x < 8) (h : FrAt W B o) : Calls Tryd.prog 41 #[.pointer (some ⟨B, 0, none⟩), .int .i64 x, cellV c] W (SetP W B (setF o x c)) := by
  obtain ⟨A, cp, hh, hR, hc⟩ := h
  have hB : B < W.heap.size := (Array.getElem?_eq_some_iff.1 hh).1
  have hf : ∀ j, W.frozen? ⟨B, j, none⟩ = false := fun j => frozen_of_row W B j _ _ hh
  have c0 : ∀ j, W.cell? ⟨B, j, none⟩ = (frCs o A cp)[j]? := fun j => cell_of_row _ _ _ _ _ _ hh
  have c1 := c0 1
  have c2 := c0 2
  have c3 := c0 3
  have c4 := c0 4
  have c5 := c0 5
  have c6 := c0 6
  have c7 := c0 7
  have c8 := c0 8
  have f1 := hf 1
  have f2 := hf 2
  have f3 := hf 3
  have f4 := hf 4
  have f5 := hf 5
  have f6 := hf 6
  have f7 := hf 7
  have f8 := hf 8
  have HP := Lib.hid (fun ob i v o' hv hb => set_post (o' := o') ob i v hh hR hc hv hb)
  clear hf c0 hh hR
  simp only [frCs, List.getElem?_toArray, List.getElem?_cons_succ, List.getElem?_cons_zero] at c1 c2 c3 c4 c5 c6 c7 c8
  unfold cellV
  rcases eight hx with h | h | h | h | h | h | h | h <;> subst h
  all_goals
    go_enter Tryd.func41, Tryd.ntmps41
    go_wp2
    go_end0
    refine HP.out _ _ _ (setF o _ c) ?_ ?_ <;> rfl
set_option maxHeartbeats 3200000 in
theorem set_any8 (W : World) (B : Nat) (o : Fr) (c : Cell) (h : FrAt W B o) : Calls Tryd.prog 41 #[.pointer (some ⟨B, 0, none⟩), .int .i64 8, cellV c] W (SetP W B (setF o 8 c)) := by
  obtain ⟨A, cp, hh, hR, hc⟩ := h
  obtain ⟨n, fl, s⟩ := c
  have hB : B < W.heap.size := (Array.getElem?_eq_some_iff.1 hh).1
  have hcv := Lib.run_convert_string_bytes (P := Tryd.prog) (W.alloc (.cells #[.int .i64 n, .float .f64 fl, .string s] 83)) 9 23 5 s Tryd.underlying9 Tryd.underlying23 Tryd.underlying5
  have hsz := Lib.bytesWorld_size (W.alloc (.cells #[.int .i64 n, .float .f64 fl, .string s] 83)) 5 s
  have hold := Lib.bytesWorld_at_old (W.alloc (.cells #[.int .i64 n, .float .f64 fl, .string s] 83)) 5 s
  have hnew := Lib.bytesWorld_cell (W.alloc (.cells #[.int .i64 n, .float .f64 fl, .string s] 83)) 5 s
  have hos : (Lib.bytesWorld (W.alloc (.cells #[.int .i64 n, .float .f64 fl, .string s] 83)) 5 s).os = W.os ∧ (Lib.bytesWorld (W.alloc (.cells #[.int .i64 n, .float .f64 fl, .string s] 83)) 5 s).tape = W.tape ∧ (Lib.bytesWorld (W.alloc (.cells #[.int .i64 n, .float .f64 fl, .string s] 83)) 5 s).output = W.output := ⟨rfl, rfl, rfl⟩
  have hgc : s.size ≤ grownCap (W.alloc (.cells #[.int .i64 n, .float .f64 fl, .string s] 83)) s.size 0 5 := grownCap_ge _ _ _ _
  generalize grownCap (W.alloc (.cells #[.int .i64 n, .float .f64 fl, .string s] 83)) s.size 0 5 = K at *
  generalize Lib.bytesWorld (W.alloc (.cells #[.int .i64 n, .float .f64 fl, .string s] 83)) 5 s = W2 at *
  have hz1 : (W.alloc (.cells #[.int .i64 n, .float .f64 fl, .string s] 83)).heap.size = W.heap.size + 1 := by simp
  rw [hz1] at hsz hold hnew hcv
  have hh2 : W2.heap[B]? = some (.cells (frCs o A cp) 25 (0, 0)) := (hold B (by omega)).trans ((heap_alloc_old _ _ hB).trans hh)
  have c9 : W2.cell? ⟨B, 9, none⟩ = some (.slice A o.bytes.length cp) := (cell_of_row _ _ _ _ _ _ hh2).trans rfl
  have f9 : W2.frozen? ⟨B, 9, none⟩ = false := frozen_of_row W2 B 9 _ _ hh2
  have hpost : SetP W B (setF o 8 ⟨n, fl, s⟩) (.returned (.tuple #[])) (W2.setCell ⟨B, 9, none⟩ (.slice (some ⟨W.heap.size + 1, 0, none⟩) s.size K)) := by
    refine ⟨rfl, ⟨hos.1, hos.2.1, hos.2.2, by simp; omega, fun k hk hn => ?_⟩, some ⟨W.heap.size + 1, 0, none⟩, K, ?_, ?_, by show s.data.toList.length ≤ K; rw [Array.length_toList]; exact hgc⟩
    · rw [heap_setCell_other _ _ _ _ (fun e => hn (by rw [e])), hold k (by omega), heap_alloc_old _ _ hk]
    · rw [heap_setCell_same _ _ _ _ _ _ hh2]
      rw [show (setF o 8 ⟨n, fl, s⟩) = { o with bytes := s.data.toList } from rfl]
      unfold frCs
      rw [show ({ o with bytes := s.data.toList } : Fr).bytes.length = s.size from Array.length_toList]
      rfl
    · refine fun _ => ⟨_, rfl, ⟨by show W.heap.size + 1 ≠ B; omega, by simp; omega⟩, fun j u hj => ?_⟩
      have hj' : (bvs s.data.toList)[j]? = some u := hj
      have hll : s.data.toList.length = s.size := Array.length_toList
      generalize s.data.toList = l at hj' hnew hll
      have hjl : j < l.length := by
        have := (List.getElem?_eq_some_iff.1 hj').1
        rw [bvs_length] at this
        exact this
      have hj2 := hnew j (by rw [← hll]; exact hjl)
      have hu : u = .int .u8 (l.getD j 0).toNat := by
        rw [bvs_get _ _ hjl] at hj'
        rw [← Option.some.inj hj', List.getD_eq_getElem?_getD, List.getElem?_eq_getElem hjl]
        rfl
      have hadd : (⟨W.heap.size + 1, 0, none⟩ : Addr).add j = ⟨W.heap.size + 1, j, none⟩ := by
        unfold Addr.add
        by_cases h0 : j = 0 <;> simp [h0]
      rw [hadd, hu]
      exact (World.cell?_setCell_far _ _ _ _ (by show B ≠ W.heap.size + 1; omega)).trans hj2
  have HP := Lib.hid hpost
  clear hpost hh hR hh2 hold hnew hos hsz hgc hc hz1
  unfold cellV
  go_enter Tryd.func41, Tryd.ntmps41
  go_wp2
  go_end0
  exact HP.out
theorem setF_any (W : World) (B : Nat) (o : Fr) (x : Nat) (c : Cell) (hx : x < 9) (h : FrAt W B o) : Calls Tryd.prog 41 #[.pointer (some ⟨B, 0, none⟩), .int .i64 x, cellV c] W (SetP W B (setF o x c)) := by
  by_cases h8 : x < 8
  · exact set_any1 W B o x c h8 h
  · obtain rfl : x = 8 := by omega
    exact set_any8 W B o c h
end Go.Proofs.YtpekagkhgegefaaDoor
