/- Walks of package frame, first part: shape, within, bytes, good, Row, cell, Layout. -/
import Derived.Test.YtpekagkhgegefaaDoorVd
import Derived.Test.YtpekagkhgegefaaDoorVf
import Derived.Laws.Runes
set_option linter.unusedVariables false
set_option linter.unusedSimpArgs false
set_option linter.unnecessarySimpa false
namespace Go.Proofs.YtpekagkhgegefaaDoor
open Go.RowKit
attribute [local go_sem] run_store_flt

/-- A frame as a value: its bytes lie at A. -/
def frV (f : Fr) (A : Option Addr) (c : Nat) : Value :=
  .agg #[.int .i64 f.kind, .int .i64 f.seq, .int .i64 f.got, .int .i64 f.stream, .int .i64 f.amount, .int .i64 f.code, .string f.who, .string f.name, .float .f64 f.weight, .slice A f.bytes.length c]
def frCs (f : Fr) (A : Option Addr) (c : Nat) : Array Value :=
  #[.int .i64 f.kind, .int .i64 f.seq, .int .i64 f.got, .int .i64 f.stream, .int .i64 f.amount, .int .i64 f.code, .string f.who, .string f.name, .float .f64 f.weight, .slice A f.bytes.length c]
def natV (x : Nat) : Value := .int .i64 (x : Int)
def ShapeP (w : World) (l : List Nat) (e : Ending) (w' : World) : Prop :=
  Below w.heap.size w w' ∧ ∃ A, e = .returned (.slice A l.length l.length) ∧ (l = [] → A = none) ∧ (l ≠ [] → A = some ⟨w.heap.size, 0, none⟩) ∧ RdC (fun b => b = w.heap.size ∧ b < w'.heap.size) w' A (l.map natV)
theorem ShapeP.mk0 (w : World) : ShapeP w [] (.returned (.slice none 0 0)) w := ⟨Below.refl _ _, none, rfl, fun _ => rfl, fun h => absurd rfl h, RdC.nil _ _ _⟩
theorem ShapeP.mk (w : World) (l : List Nat) (hl : l ≠ []) (n : Nat) (hn : n = l.length) (cs : Array Value) (hc : cs.toList = l.map natV) : ShapeP w l (.returned (.slice (some ⟨w.heap.size, 0, none⟩) n n)) (w.alloc (.cells cs 78)) := by
  subst hn
  refine ⟨(Below.refl _ _).alloc (Nat.le_refl _) _, _, rfl, fun h => absurd h hl, fun _ => rfl, ?_⟩
  rw [← hc]
  exact (RdC.new w cs 78).mono fun b hb => ⟨hb, by simp; omega⟩
set_option maxHeartbeats 800000 in
theorem shape_in (k : Int) (hk : 1 ≤ k ∧ k ≤ 17) (w : World) : Calls Tryd.prog 39 #[.int .i64 k] w (ShapeP w (shapeF k)) := by
  rcases kind_cases hk with h | h | h | h | h | h | h | h | h | h | h | h | h | h | h | h | h <;> subst h
  all_goals
    go_enter Tryd.func39, Tryd.ntmps39
    go_wp2
    go_ret
    exact ShapeP.mk w _ (by decide) _ rfl _ rfl
set_option maxHeartbeats 800000 in
theorem shape_no (k : Int) (hk : ¬ (1 ≤ k ∧ k ≤ 17)) (w : World) : Calls Tryd.prog 39 #[.int .i64 k] w (ShapeP w (shapeF k)) := by
  rw [shape_out hk]
  go_enter Tryd.func39, Tryd.ntmps39
  go_wp2
  go_ret
  exact ShapeP.mk0 w
theorem shape_any (k : Int) (w : World) : Calls Tryd.prog 39 #[.int .i64 k] w (ShapeP w (shapeF k)) := by
  by_cases hk : 1 ≤ k ∧ k ≤ 17
  · exact shape_in k hk w
  · exact shape_no k hk w

theorem within_any (n lo hi : Int) (w : World) : Calls Tryd.prog 45 #[.int .i64 n, .int .i64 lo, .int .i64 hi] w fun e w' => e = .returned (.bool (withinF n lo hi)) ∧ w = w' := by
  by_cases h1 : lo ≤ n
  · by_cases h2 : n ≤ hi
    · have HV := Lib.hid (show withinF n lo hi = true by simp [withinF, h1, h2])
      go_enter Tryd.func45, Tryd.ntmps45
      go_wp2
      go_ret
      exact ⟨ret_congr (by rw [HV.out]; rfl), rfl⟩
    · have HV := Lib.hid (show withinF n lo hi = false by simp [withinF, h2])
      go_enter Tryd.func45, Tryd.ntmps45
      go_wp2
      go_ret
      exact ⟨ret_congr (by rw [HV.out]; rfl), rfl⟩
  · have HV := Lib.hid (show withinF n lo hi = false by simp [withinF, h1])
    go_enter Tryd.func45, Tryd.ntmps45
    go_wp2
    go_ret
    exact ⟨ret_congr (by rw [HV.out]; rfl), rfl⟩
theorem row_any (k : Int) (w : World) : Calls Tryd.prog 18 #[.int .i64 k] w fun e w' => e = .returned (.bool (rowF k)) ∧ w = w' := by
  go_enter Tryd.func18, Tryd.ntmps18
  go_wp2_with (go_at_call 45; refine (within_any _ _ _ _).mono ?_; rintro e w' ⟨rfl, rfl⟩)
  go_ret
  exact ⟨rfl, rfl⟩
theorem bytesF_any (k n : Int) (w : World) : Calls Tryd.prog 58 #[.int .i64 k, .int .i64 n] w fun e w' => e = .returned (.bool (bytesF k n)) ∧ w = w' := by
  have hv : bytesF k n = if k = 1 then decide (n ≤ 32) else if k = 3 then decide (n = 32) else if k = 9 then withinF n 1 512 else withinF n 1 32 := rfl
  have HV := Lib.hid hv
  clear hv
  by_cases h1 : k = 1
  · have hb : (k == 1) = true := by simpa using h1
    have H1 := Lib.hid h1
    clear h1
    go_enter Tryd.func58, Tryd.ntmps58
    go_wp2
    go_ret
    exact ⟨ret_congr (by rw [HV.out, if_pos H1.out]; rfl), rfl⟩
  · by_cases h3 : k = 3
    · have hb : (k == 1) = false := by simpa using h1
      have hb3 : (k == 3) = true := by simpa using h3
      have H1 := Lib.hid h1
      have H3 := Lib.hid h3
      clear h1 h3
      go_enter Tryd.func58, Tryd.ntmps58
      go_wp2
      go_ret
      exact ⟨ret_congr (by rw [HV.out, if_neg H1.out, if_pos H3.out]; rfl), rfl⟩
    · by_cases h9 : k = 9
      · have hb : (k == 1) = false := by simpa using h1
        have hb3 : (k == 3) = false := by simpa using h3
        have hb9 : (k == 9) = true := by simpa using h9
        have H1 := Lib.hid h1
        have H3 := Lib.hid h3
        have H9 := Lib.hid h9
        clear h1 h3 h9
        go_enter Tryd.func58, Tryd.ntmps58
        go_wp2_with (go_at_call 45; refine (within_any _ _ _ _).mono ?_; rintro e w' ⟨rfl, rfl⟩)
        go_ret
        exact ⟨ret_congr (by rw [HV.out, if_neg H1.out, if_neg H3.out, if_pos H9.out]; rfl), rfl⟩
      · have hb : (k == 1) = false := by simpa using h1
        have hb3 : (k == 3) = false := by simpa using h3
        have hb9 : (k == 9) = false := by simpa using h9
        have H1 := Lib.hid h1
        have H3 := Lib.hid h3
        have H9 := Lib.hid h9
        clear h1 h3 h9
        go_enter Tryd.func58, Tryd.ntmps58
        go_wp2_with (go_at_call 45; refine (within_any _ _ _ _).mono ?_; rintro e w' ⟨rfl, rfl⟩)
        go_ret
        exact ⟨ret_congr (by rw [HV.out, if_neg H1.out, if_neg H3.out, if_neg H9.out]; rfl), rfl⟩
def BoolP (b : Bool) (w : World) (e : Ending) (w' : World) : Prop := e = .returned (.bool b) ∧ Below w.heap.size w w'
set_option maxHeartbeats 1600000 in
theorem good_any (f : Fr) (A : Option Addr) (c x : Nat) (hx : x < 9) (w : World) (h1 : f.who.size ≤ 9223372036854775807) (h2 : f.name.size ≤ 9223372036854775807) (h3 : f.bytes.length ≤ 9223372036854775807) :
    Calls Tryd.prog 40 #[frV f A c, .int .i64 x] w (BoolP (goodF f x) w) := by
  unfold frV
  rcases nine hx with h | h | h | h | h | h | h | h | h <;> subst h
  all_goals
    go_enter Tryd.func40, Tryd.ntmps40
    go_wp2_with (first
      | (go_at_call 45; refine (within_any _ _ _ _).mono ?_; rintro e w' ⟨rfl, rfl⟩)
      | (go_at_call 58; refine (bytesF_any _ _ _).mono ?_; rintro e w' ⟨rfl, rfl⟩))
    go_ret
    exact ⟨rfl, (Below.refl _ _).alloc (Nat.le_refl _) _⟩
def CellRP (f : Fr) (x : Nat) (w : World) (e : Ending) (w' : World) : Prop := e = .returned (cellV (cellF f x)) ∧ Below w.heap.size w w'
end Go.Proofs.YtpekagkhgegefaaDoor
