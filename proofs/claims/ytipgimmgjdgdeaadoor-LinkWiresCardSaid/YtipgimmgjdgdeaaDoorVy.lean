/- Walks of package frame, third part: Layout. -/
import Derived.Test.YtipgimmgjdgdeaaDoorVd
import Derived.Test.YtipgimmgjdgdeaaDoorVf
import Derived.Laws.Runes
set_option linter.unusedVariables false
set_option linter.unusedSimpArgs false
set_option linter.unnecessarySimpa false
namespace Go.Proofs.YtipgimmgjdgdeaaDoor
open Go.RowKit
attribute [local go_sem] run_store_flt

/-- A frame as a value: its bytes lie at A. -/
def frV (f : Fr) (A : Option Addr) (c : Nat) : Value :=
  .agg #[.int .i64 f.kind, .int .i64 f.seq, .int .i64 f.got, .int .i64 f.stream, .int .i64 f.amount, .int .i64 f.code, .string f.who, .string f.name, .float .f64 f.weight, .slice A f.bytes.length c]
def frCs (f : Fr) (A : Option Addr) (c : Nat) : Array Value :=
  #[.int .i64 f.kind, .int .i64 f.seq, .int .i64 f.got, .int .i64 f.stream, .int .i64 f.amount, .int .i64 f.code, .string f.who, .string f.name, .float .f64 f.weight, .slice A f.bytes.length c]
def natV (x : Nat) : Value := .int .i64 (x : Int)
def ShapeP (w : World) (l : List Nat) (e : Ending) (w' : World) : Prop :=
  Below w.heap.size w w' ∧ ∃ A, e = .returned (.slice A l.length l.length) ∧ (l = [] → A = none) ∧ (l ≠ [] → A = some ⟨w.heap.size, 0, none⟩) ∧ RdC (fun b => b = w.heap.size ∧ b < w'.heap.size) w' A (l.map natV)
theorem ShapeP.mk0 (w : World) : ShapeP w [] (.returned (.slice none 0 0)) w := ⟨Below.refl _ _, none, rfl, fun _ => rfl, fun h => absurd rfl h, RdC.nil _ _ _⟩
theorem ShapeP.mk (w : World) (l : List Nat) (hl : l ≠ []) (n : Nat) (hn : n = l.length) (cs : Array Value) (hc : cs.toList = l.map natV) : ShapeP w l (.returned (.slice (some ⟨w.heap.size, 0, none⟩) n n)) (w.alloc (.cells cs 116)) := by
  subst hn
  refine ⟨(Below.refl _ _).alloc (Nat.le_refl _) _, _, rfl, fun h => absurd h hl, fun _ => rfl, ?_⟩
  rw [← hc]
  exact (RdC.new w cs 116).mono fun b hb => ⟨hb, by simp; omega⟩
set_option maxHeartbeats 800000 in
theorem shape_in (k : Int) (hk : 1 ≤ k ∧ k ≤ 17) (w : World) : Calls Tryd.prog 64 #[.int .i64 k] w (ShapeP w (shapeF k)) := by
  rcases kind_cases hk with h | h | h | h | h | h | h | h | h | h | h | h | h | h | h | h | h <;> subst h
  all_goals
    go_enter Tryd.func64, Tryd.ntmps64
    go_wp2
    go_ret
    exact ShapeP.mk w _ (by decide) _ rfl _ rfl
set_option maxHeartbeats 800000 in
theorem shape_no (k : Int) (hk : ¬ (1 ≤ k ∧ k ≤ 17)) (w : World) : Calls Tryd.prog 64 #[.int .i64 k] w (ShapeP w (shapeF k)) := by
  rw [shape_out hk]
  go_enter Tryd.func64, Tryd.ntmps64
  go_wp2
  go_ret
  exact ShapeP.mk0 w
theorem shape_any (k : Int) (w : World) : Calls Tryd.prog 64 #[.int .i64 k] w (ShapeP w (shapeF k)) := by
  by_cases hk : 1 ≤ k ∧ k ≤ 17
  · exact shape_in k hk w
  · exact shape_no k hk w

theorem within_any (n lo hi : Int) (w : World) : Calls Tryd.prog 63 #[.int .i64 n, .int .i64 lo, .int .i64 hi] w fun e w' => e = .returned (.bool (withinF n lo hi)) ∧ w = w' := by
  by_cases h1 : lo ≤ n
  · by_cases h2 : n ≤ hi
    · have HV := Lib.hid (show withinF n lo hi = true by simp [withinF, h1, h2])
      go_enter Tryd.func63, Tryd.ntmps63
      go_wp2
      go_ret
      exact ⟨ret_congr (by rw [HV.out]; rfl), rfl⟩
    · have HV := Lib.hid (show withinF n lo hi = false by simp [withinF, h2])
      go_enter Tryd.func63, Tryd.ntmps63
      go_wp2
      go_ret
      exact ⟨ret_congr (by rw [HV.out]; rfl), rfl⟩
  · have HV := Lib.hid (show withinF n lo hi = false by simp [withinF, h1])
    go_enter Tryd.func63, Tryd.ntmps63
    go_wp2
    go_ret
    exact ⟨ret_congr (by rw [HV.out]; rfl), rfl⟩
theorem row_any (k : Int) (w : World) : Calls Tryd.prog 52 #[.int .i64 k] w fun e w' => e = .returned (.bool (rowF k)) ∧ w = w' := by
  go_enter Tryd.func52, Tryd.ntmps52
  go_wp2_with (go_at_call 63; refine (within_any _ _ _ _).mono ?_; rintro e w' ⟨rfl, rfl⟩)
  go_ret
  exact ⟨rfl, rfl⟩
theorem bytesF_any (k n : Int) (w : World) : Calls Tryd.prog 75 #[.int .i64 k, .int .i64 n] w fun e w' => e = .returned (.bool (bytesF k n)) ∧ w = w' := by
  have hv : bytesF k n = if k = 1 then decide (n ≤ 32) else if k = 3 then decide (n = 32) else if k = 9 then withinF n 1 512 else withinF n 1 32 := rfl
  have HV := Lib.hid hv
  clear hv
  by_cases h1 : k = 1
  · have hb : (k == 1) = true := by simpa using h1
    have H1 := Lib.hid h1
    clear h1
    go_enter Tryd.func75, Tryd.ntmps75
    go_wp2
    go_ret
    exact ⟨ret_congr (by rw [HV.out, if_pos H1.out]; rfl), rfl⟩
  · by_cases h3 : k = 3
    · have hb : (k == 1) = false := by simpa using h1
      have hb3 : (k == 3) = true := by simpa using h3
      have H1 := Lib.hid h1
      have H3 := Lib.hid h3
      clear h1 h3
      go_enter Tryd.func75, Tryd.ntmps75
      go_wp2
      go_ret
      exact ⟨ret_congr (by rw [HV.out, if_neg H1.out, if_pos H3.out]; rfl), rfl⟩
    · by_cases h9 : k = 9
      · have hb : (k == 1) = false := by simpa using h1
        have hb3 : (k == 3) = false := by simpa using h3
        have hb9 : (k == 9) = true := by simpa using h9
        have H1 := Lib.hid h1
        have H3 := Lib.hid h3
        have H9 := Lib.hid h9
        clear h1 h3 h9
        go_enter Tryd.func75, Tryd.ntmps75
        go_wp2_with (go_at_call 63; refine (within_any _ _ _ _).mono ?_; rintro e w' ⟨rfl, rfl⟩)
        go_ret
        exact ⟨ret_congr (by rw [HV.out, if_neg H1.out, if_neg H3.out, if_pos H9.out]; rfl), rfl⟩
      · have hb : (k == 1) = false := by simpa using h1
        have hb3 : (k == 3) = false := by simpa using h3
        have hb9 : (k == 9) = false := by simpa using h9
        have H1 := Lib.hid h1
        have H3 := Lib.hid h3
        have H9 := Lib.hid h9
        clear h1 h3 h9
        go_enter Tryd.func75, Tryd.ntmps75
        go_wp2_with (go_at_call 63; refine (within_any _ _ _ _).mono ?_; rintro e w' ⟨rfl, rfl⟩)
        go_ret
        exact ⟨ret_congr (by rw [HV.out, if_neg H1.out, if_neg H3.out, if_neg H9.out]; rfl), rfl⟩
def BoolP (b : Bool) (w : World) (e : Ending) (w' : World) : Prop := e = .returned (.bool b) ∧ Below w.heap.size w w'
set_option maxHeartbeats 1600000 in
theorem good_any (f : Fr) (A : Option Addr) (c x : Nat) (hx : x < 9) (w : World) (h1 : f.who.size ≤ 9223372036854775807) (h2 : f.name.size ≤ 9223372036854775807) (h3 : f.bytes.length ≤ 9223372036854775807) :
    Calls Tryd.prog 65 #[frV f A c, .int .i64 x] w (BoolP (goodF f x) w) := by
  unfold frV
  rcases nine hx with h | h | h | h | h | h | h | h | h <;> subst h
  all_goals
    go_enter Tryd.func65, Tryd.ntmps65
    go_wp2_with (first
      | (go_at_call 63; refine (within_any _ _ _ _).mono ?_; rintro e w' ⟨rfl, rfl⟩)
      | (go_at_call 75; refine (bytesF_any _ _ _).mono ?_; rintro e w' ⟨rfl, rfl⟩))
    go_ret
    exact ⟨rfl, (Below.refl _ _).alloc (Nat.le_refl _) _⟩
def CellRP (f : Fr) (x : Nat) (w : World) (e : Ending) (w' : World) : Prop := e = .returned (cellV (cellF f x)) ∧ Below w.heap.size w w'
end Go.Proofs.YtipgimmgjdgdeaaDoor
/- Walks of package frame, first part: shape, within, bytes, good, Row, cell, Layout. -/
set_option linter.unusedVariables false
set_option linter.unusedSimpArgs false
set_option linter.unnecessarySimpa false
namespace Go.Proofs.YtipgimmgjdgdeaaDoor
open Go.RowKit
attribute [local go_sem] run_store_flt

theorem eight {x : Nat} (h : x < 8) : x = 0 ∨ x = 1 ∨ x = 2 ∨ x = 3 ∨ x = 4 ∨ x = 5 ∨ x = 6 ∨ x = 7 := by omega
theorem frCs_get (f : Fr) (A : Option Addr) (c : Nat) : (frCs f A c).size = 10 := rfl
set_option maxHeartbeats 1600000 in
theorem cell_any1 (f : Fr) (A : Option Addr) (c x : Nat) (hx : x < 8) (w : World) : Calls Tryd.prog 67 #[frV f A c, .int .i64 x] w (CellRP f x w) := by
  unfold frV
  rcases eight hx with h | h | h | h | h | h | h | h <;> subst h
  all_goals
    go_enter Tryd.func67, Tryd.ntmps67
    go_wp2
    exact bodyPost_ret (v := cellV (cellF f _)) (by simp [results, Tryd.results67, go_sem, cellV, cellF, noS]) rfl ⟨rfl, by repeat (first | exact Below.refl _ _ | refine Below.alloc ?_ (by simp) _ | refine Below.setCell ?_ (by simp) _)⟩
set_option maxHeartbeats 1600000 in
theorem cell_any8 (f : Fr) (A : Option Addr) (c : Nat) (w : World) (hR : RdC (· < w.heap.size) w A (bvs f.bytes)) : Calls Tryd.prog 67 #[frV f A c, .int .i64 8] w (CellRP f 8 w) := by
  have hcv : (convert 31 9 (.slice A f.bytes.length c)).run Tryd.prog ((w.alloc (.cells (frCs f A c) 33)).alloc (.cells #[.int .i64 0, .float .f64 0, .string ⟨#[]⟩] 121)) = .ok (.string ⟨f.bytes.toArray⟩) ((w.alloc (.cells (frCs f A c) 33)).alloc (.cells #[.int .i64 0, .float .f64 0, .string ⟨#[]⟩] 121)) :=
    run_str_of Tryd.underlying31 Tryd.underlying5 Tryd.underlying9 rfl (hR.move (fun b hb => ((Below.refl w.heap.size w).alloc (Nat.le_refl _) _ |>.alloc (by simp) _).block b hb))
  unfold frCs at hcv
  unfold frV
  go_enter Tryd.func67, Tryd.ntmps67
  go_wp2
  exact bodyPost_ret (v := cellV (cellF f 8)) (by simp [results, Tryd.results67, go_sem, cellV, cellF, noS]) rfl ⟨rfl, by repeat (first | exact Below.refl _ _ | refine Below.alloc ?_ (by simp) _ | refine Below.setCell ?_ (by simp) _)⟩
theorem cellF_any (f : Fr) (A : Option Addr) (c x : Nat) (hx : x < 9) (w : World) (hR : RdC (· < w.heap.size) w A (bvs f.bytes)) : Calls Tryd.prog 67 #[frV f A c, .int .i64 x] w (CellRP f x w) := by
  by_cases h : x < 8
  · exact cell_any1 f A c x h w
  · obtain rfl : x = 8 := by omega
    exact cell_any8 f A c w hR

/-- A frame in block B; its bytes lie elsewhere. -/
def FrAt (W : World) (B : Nat) (o : Fr) : Prop := ∃ A c, W.heap[B]? = some (.cells (frCs o A c) 33 (0, 0)) ∧ RdC (fun b => b ≠ B ∧ b < W.heap.size) W A (bvs o.bytes) ∧ o.bytes.length ≤ c
def SetP (W : World) (B : Nat) (o : Fr) (e : Ending) (W' : World) : Prop := e = .returned (.tuple #[]) ∧ W.grownBy W' (some B) ∧ FrAt W' B o
theorem set_post {W : World} {B : Nat} {o o' : Fr} {A : Option Addr} {c : Nat} (ob : Obj) (i : Nat) (v : Value) (hh : W.heap[B]? = some (.cells (frCs o A c) 33 (0, 0))) (hR : RdC (fun b => b ≠ B ∧ b < W.heap.size) W A (bvs o.bytes)) (hc : o.bytes.length ≤ c)
    (hv : (frCs o A c).setIfInBounds i v = frCs o' A c) (hb : o'.bytes = o.bytes) : SetP W B o' (.returned (.tuple #[])) ((W.setCell ⟨B, i, none⟩ v).alloc ob) := by
  have hB : B < W.heap.size := (Array.getElem?_eq_some_iff.1 hh).1
  have hs : (W.setCell ⟨B, i, none⟩ v).heap.size = W.heap.size := by simp
  refine ⟨rfl, ⟨rfl, rfl, rfl, by simp, fun k hk hn => ?_⟩, A, c, ?_, ?_, by rw [hb]; exact hc⟩
  · rw [heap_alloc_old _ _ (by rw [hs]; exact hk), heap_setCell_other _ _ _ _ (fun e => hn (by rw [e]))]
  · rw [heap_alloc_old _ _ (by rw [hs]; exact hB), heap_setCell_same _ _ _ _ _ _ hh, hv]
  · rw [hb]
    refine (hR.move (w' := (W.setCell ⟨B, i, none⟩ v).alloc ob) fun b hk => ?_).mono fun b hk => ⟨hk.1, by simp; omega⟩
    rw [heap_alloc_old _ _ (by rw [hs]; exact hk.2), heap_setCell_other _ _ _ _ hk.1]
set_option maxHeartbeats 3200000 in
theorem set_any1 (W : World) (B : Nat) (o : Fr) (x : Nat) (c : Cell) (hx : x < 8) (h : FrAt W B o) : Calls Tryd.prog 66 #[.pointer (some ⟨B, 0, none⟩), .int .i64 x, cellV c] W (SetP W B (setF o x c)) := by
  obtain ⟨A, cp, hh, hR, hc⟩ := h
  have hB : B < W.heap.size := (Array.getElem?_eq_some_iff.1 hh).1
  have hf : ∀ j, W.frozen? ⟨B, j, none⟩ = false := fun j => frozen_of_row W B j _ _ hh
  have c0 : ∀ j, W.cell? ⟨B, j, none⟩ = (frCs o A cp)[j]? := fun j => cell_of_row _ _ _ _ _ _ hh
  have c1 := c0 1
  have c2 := c0 2
  have c3 := c0 3
  have c4 := c0 4
  have c5 := c0 5
  have c6 := c0 6
  have c7 := c0 7
  have c8 := c0 8
  have f1 := hf 1
  have f2 := hf 2
  have f3 := hf 3
  have f4 := hf 4
  have f5 := hf 5
  have f6 := hf 6
  have f7 := hf 7
  have f8 := hf 8
  have HP := Lib.hid (fun ob i v o' hv hb => set_post (o' := o') ob i v hh hR hc hv hb)
  clear hf c0 hh hR
  simp only [frCs, List.getElem?_toArray, List.getElem?_cons_succ, List.getElem?_cons_zero] at c1 c2 c3 c4 c5 c6 c7 c8
  unfold cellV
  rcases eight hx with h | h | h | h | h | h | h | h <;> subst h
  all_goals
    go_enter Tryd.func66, Tryd.ntmps66
    go_wp2
    go_end0
    refine HP.out _ _ _ (setF o _ c) ?_ ?_ <;> rfl
set_option maxHeartbeats 3200000 in
theorem set_any8 (W : World) (B : Nat) (o : Fr) (c : Cell) (h : FrAt W B o) : Calls Tryd.prog 66 #[.pointer (some ⟨B, 0, none⟩), .int .i64 8, cellV c] W (SetP W B (setF o 8 c)) := by
  obtain ⟨A, cp, hh, hR, hc⟩ := h
  obtain ⟨n, fl, s⟩ := c
  have hB : B < W.heap.size := (Array.getElem?_eq_some_iff.1 hh).1
  have hcv := Lib.run_convert_string_bytes (P := Tryd.prog) (W.alloc (.cells #[.int .i64 n, .float .f64 fl, .string s] 121)) 9 31 5 s Tryd.underlying9 Tryd.underlying31 Tryd.underlying5
  have hsz := Lib.bytesWorld_size (W.alloc (.cells #[.int .i64 n, .float .f64 fl, .string s] 121)) 5 s
  have hold := Lib.bytesWorld_at_old (W.alloc (.cells #[.int .i64 n, .float .f64 fl, .string s] 121)) 5 s
  have hnew := Lib.bytesWorld_cell (W.alloc (.cells #[.int .i64 n, .float .f64 fl, .string s] 121)) 5 s
  have hos : (Lib.bytesWorld (W.alloc (.cells #[.int .i64 n, .float .f64 fl, .string s] 121)) 5 s).os = W.os ∧ (Lib.bytesWorld (W.alloc (.cells #[.int .i64 n, .float .f64 fl, .string s] 121)) 5 s).tape = W.tape ∧ (Lib.bytesWorld (W.alloc (.cells #[.int .i64 n, .float .f64 fl, .string s] 121)) 5 s).output = W.output := ⟨rfl, rfl, rfl⟩
  have hgc : s.size ≤ grownCap (W.alloc (.cells #[.int .i64 n, .float .f64 fl, .string s] 121)) s.size 0 5 := grownCap_ge _ _ _ _
  generalize grownCap (W.alloc (.cells #[.int .i64 n, .float .f64 fl, .string s] 121)) s.size 0 5 = K at *
  generalize Lib.bytesWorld (W.alloc (.cells #[.int .i64 n, .float .f64 fl, .string s] 121)) 5 s = W2 at *
  have hz1 : (W.alloc (.cells #[.int .i64 n, .float .f64 fl, .string s] 121)).heap.size = W.heap.size + 1 := by simp
  rw [hz1] at hsz hold hnew hcv
  have hh2 : W2.heap[B]? = some (.cells (frCs o A cp) 33 (0, 0)) := (hold B (by omega)).trans ((heap_alloc_old _ _ hB).trans hh)
  have c9 : W2.cell? ⟨B, 9, none⟩ = some (.slice A o.bytes.length cp) := (cell_of_row _ _ _ _ _ _ hh2).trans rfl
  have f9 : W2.frozen? ⟨B, 9, none⟩ = false := frozen_of_row W2 B 9 _ _ hh2
  have hpost : SetP W B (setF o 8 ⟨n, fl, s⟩) (.returned (.tuple #[])) (W2.setCell ⟨B, 9, none⟩ (.slice (some ⟨W.heap.size + 1, 0, none⟩) s.size K)) := by
    refine ⟨rfl, ⟨hos.1, hos.2.1, hos.2.2, by simp; omega, fun k hk hn => ?_⟩, some ⟨W.heap.size + 1, 0, none⟩, K, ?_, ?_, by show s.data.toList.length ≤ K; rw [Array.length_toList]; exact hgc⟩
    · rw [heap_setCell_other _ _ _ _ (fun e => hn (by rw [e])), hold k (by omega), heap_alloc_old _ _ hk]
    · rw [heap_setCell_same _ _ _ _ _ _ hh2]
      rw [show (setF o 8 ⟨n, fl, s⟩) = { o with bytes := s.data.toList } from rfl]
      unfold frCs
      rw [show ({ o with bytes := s.data.toList } : Fr).bytes.length = s.size from Array.length_toList]
      rfl
    · refine fun _ => ⟨_, rfl, ⟨by show W.heap.size + 1 ≠ B; omega, by simp; omega⟩, fun j u hj => ?_⟩
      have hj' : (bvs s.data.toList)[j]? = some u := hj
      have hll : s.data.toList.length = s.size := Array.length_toList
      generalize s.data.toList = l at hj' hnew hll
      have hjl : j < l.length := by
        have := (List.getElem?_eq_some_iff.1 hj').1
        rw [bvs_length] at this
        exact this
      have hj2 := hnew j (by rw [← hll]; exact hjl)
      have hu : u = .int .u8 (l.getD j 0).toNat := by
        rw [bvs_get _ _ hjl] at hj'
        rw [← Option.some.inj hj', List.getD_eq_getElem?_getD, List.getElem?_eq_getElem hjl]
        rfl
      have hadd : (⟨W.heap.size + 1, 0, none⟩ : Addr).add j = ⟨W.heap.size + 1, j, none⟩ := by
        unfold Addr.add
        by_cases h0 : j = 0 <;> simp [h0]
      rw [hadd, hu]
      exact (World.cell?_setCell_far _ _ _ _ (by show B ≠ W.heap.size + 1; omega)).trans hj2
  have HP := Lib.hid hpost
  clear hpost hh hR hh2 hold hnew hos hsz hgc hc hz1
  unfold cellV
  go_enter Tryd.func66, Tryd.ntmps66
  go_wp2
  go_end0
  exact HP.out
theorem setF_any (W : World) (B : Nat) (o : Fr) (x : Nat) (c : Cell) (hx : x < 9) (h : FrAt W B o) : Calls Tryd.prog 66 #[.pointer (some ⟨B, 0, none⟩), .int .i64 x, cellV c] W (SetP W B (setF o x c)) := by
  by_cases h8 : x < 8
  · exact set_any1 W B o x c h8 h
  · obtain rfl : x = 8 := by omega
    exact set_any8 W B o c h
end Go.Proofs.YtipgimmgjdgdeaaDoor
/- Walks of package frame, second part: Layout, cell, set. -/
set_option linter.unusedVariables false
set_option linter.unusedSimpArgs false
set_option linter.unnecessarySimpa false
namespace Go.Proofs.YtipgimmgjdgdeaaDoor
open Go.RowKit

def strOf (b : Bs) : ByteArray := ⟨b.toArray⟩
theorem run_letter (x : Nat) (hx : x < 9) (w : World) : (Instr.index 9 (.string ⟨#[113, 113, 119, 119, 98, 116, 116, 102, 114]⟩) (.int .i64 (x : Int))).run Tryd.prog w = .ok (.int .u8 (letterF x).toNat) w := by
  rcases nine hx with h | h | h | h | h | h | h | h | h <;> subst h <;> kernel_rfl
theorem run_letterS (x : Nat) (hx : x < 9) (w : World) : (convert 5 9 (.int .u8 ((letterF x).toNat : Int))).run Tryd.prog w = .ok (.string ⟨#[letterF x]⟩) w := by
  rcases nine hx with h | h | h | h | h | h | h | h | h <;> subst h <;> kernel_rfl
theorem strOf_snoc (b : Bs) (x : UInt8) : strOf b ++ (⟨#[x]⟩ : ByteArray) = strOf (b ++ [x]) := by
  apply ByteArray.ext
  show (strOf b ++ (⟨#[x]⟩ : ByteArray)).data = _
  rw [ByteArray.data_append]
  simp [strOf]
def LayoutP (k : Int) (w : World) (e : Ending) (w' : World) : Prop := e = .returned (.string (strOf (layoutF k))) ∧ Below w.heap.size w w'
set_option maxHeartbeats 800000 in
theorem layout_any (k : Int) (w : World) : Calls Tryd.prog 73 #[.int .i64 k] w (LayoutP k w) := by
  have h9 := shape_lt k
  have hsh := shape_any k w
  have hl3 : (shapeF k).length ≤ 3 := by have := layout_len k; simpa [layoutF] using this
  have hlen : (layoutF k).length = (shapeF k).length := by simp [layoutF]
  have hget : ∀ j (h : j < (shapeF k).length), (layoutF k).take (j + 1) = (layoutF k).take j ++ [letterF (shapeF k)[j]] := fun j h => by
    rw [List.take_succ_eq_append_getElem (by rw [hlen]; exact h)]
    simp [layoutF]
  unfold LayoutP
  generalize layoutF k = L at *
  generalize shapeF k = l at *
  have H9 := Lib.hid h9
  have HL := Lib.hid hlen
  have HG := Lib.hid hget
  have HS := Lib.hid hsh
  clear h9 hlen hsh hget
  go_enter Tryd.func73, Tryd.ntmps73
  go_wp2_with fail
  refine HS.out.mono ?_
  rintro e w1 ⟨hb, A, rfl, _, _, hR⟩
  have HB := Lib.hid hb
  have HR := Lib.hid hR
  clear hb hR HS
  go_wp2_with fail
  go_loop [3, 9] (fun o i => ∃ j : Nat, j ≤ l.length ∧ i = .int .i64 j ∧ o = .string (strOf (L.take j))) (fun _ i => l.length - (intOf i).toNat)
  case atStart => exact ⟨0, Nat.zero_le _, rfl, rfl⟩
  case round =>
    obtain ⟨j, hj, rfl, rfl⟩ := hrel
    by_cases hlt : j < l.length
    · obtain ⟨ad, rfl, hbk, hc⟩ := HR.out (by intro e; rw [List.map_eq_nil_iff] at e; rw [e] at hlt; simp at hlt)
      have hcell := hc j (natV l[j]) (by simp [hlt])
      have hx9 := H9.out l[j] (List.getElem_mem hlt)
      have hix := run_letter l[j] hx9
      have hcv := run_letterS l[j] hx9
      have HSn := Lib.hid (strOf_snoc (L.take j) (letterF l[j]))
      have HT := Lib.hid (HG.out j hlt)
      clear hc
      unfold natV at hcell
      generalize l[j] = x at *
      generalize letterF x = y at *
      have hsz : (strOf (L.take j)).size ≤ 3 := by
        have h1 : (strOf (L.take j)).size = (L.take j).length := by simp [strOf, ByteArray.size]
        have h2 : (L.take j).length ≤ L.length := List.length_take_le' _ _
        rw [HL.out] at h2
        omega
      have i0 : (0 : Int) ≤ (j : Int) := by omega
      have i1 : (j : Int) < (l.length : Int) := by omega
      go_wp2_with fail
      go_round
      case rel => exact ⟨j + 1, by omega, by go_num, by rw [HT.out, ← HSn.out]⟩
      case measure => simp [intOf]; omega
    · have HE := Lib.hid (show L.take j = L from List.take_of_length_le (by rw [HL.out]; omega))
      go_wp2_with fail
      go_ret
      exact ⟨by rw [HE.out]; rfl, HB.out⟩
end Go.Proofs.YtipgimmgjdgdeaaDoor
