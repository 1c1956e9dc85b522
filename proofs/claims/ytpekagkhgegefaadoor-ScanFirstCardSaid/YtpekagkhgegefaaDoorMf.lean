/- Walks of the reference of layer 1: field. -/
import Derived.Test.YtpekagkhgegefaaDoorMc
set_option linter.unusedVariables false
set_option linter.unusedSimpArgs false
set_option linter.unnecessarySimpa false
namespace Go.Proofs.YtpekagkhgegefaaDoor
open Go.RowKit
attribute [local go_sem] run_store_flt cellV errV

/-- A cell of the reference as a value. -/
def rcellV (c : Cell) : Value := .agg #[.int .i64 c.n, .int .u64 c.f, .string c.s]
attribute [local go_sem] rcellV
def FieldPost (w : World) (r : Except Er (Cell × Nat)) (e : Ending) (w' : World) : Prop :=
  Below w.heap.size w w' ∧ match r with
  | .ok (c, n) => e = .returned (.tuple #[rcellV c, .int .i64 n, .int .i64 0])
  | .error er => e = .returned (.tuple #[rcellV Cell.zero, .int .i64 0, .int .i64 ((erIx er + 1 : Nat) : Int)])
theorem num_step (b : Bs) (k : Nat) (h : k < b.length) (hk : k < 8) : num (b.take k) < 72057594037927936 ∧ num (b.take (k + 1)) = 256 * num (b.take k) + b[k].toNat := by
  constructor
  · have h1 := num_lt (b.take k)
    have h2 : (b.take k).length ≤ 7 := by rw [List.length_take]; omega
    have h3 : 256 ^ (b.take k).length ≤ 256 ^ 7 := Nat.pow_le_pow_right (by omega) h2
    omega
  · rw [List.take_succ_eq_append_getElem h, num_snoc]
set_option maxRecDepth 8000 in
set_option maxHeartbeats 800000 in
theorem field_short (w : World) (A : Option Addr) (c : Nat) (b : Bs) (l : UInt8) (hkl : knownL l = true) (hR : RdC (· < w.heap.size) w A (bvs b)) (hcb : b.length ≤ c) (hb : b.length ≤ 140737488355328) (h : b.length < width l) (x : Bool) (ht : isText l = x) :
    Calls Tryd.prog 67 #[.slice A b.length c, bv l] w (FieldPost w (.error .short)) := by
  have hwl := width_le l
  have hw := letter_v l hkl x ht
  clear ht
  generalize width l = n at *
  have hd : decide ((b.length : Int) < (n : Int)) = true := by simp; omega
  unfold bv
  go_enter Tryd.func67, Tryd.ntmps67
  go_wp2_with (go_at_call 69; refine (hw _).mono ?_; rintro e w' ⟨rfl, rfl⟩)
  go_wp2
  exact bodyPost_ret (v := .tuple #[rcellV Cell.zero, .int .i64 0, .int .i64 2]) (by simp [results, Tryd.results67, go_sem, rcellV, Cell.zero, erIx, erAll]) rfl ⟨by repeat (first | exact Below.refl _ _ | refine Below.drew ?_ | refine below_drewN ?_ _ | refine Below.alloc ?_ (Nat.le_refl _) _ | refine Below.setCell ?_ (by simp) _), rfl⟩

set_option maxRecDepth 8000 in
set_option maxHeartbeats 800000 in
theorem field_f (w : World) (A : Option Addr) (c : Nat) (b : Bs)  (hR : RdC (· < w.heap.size) w A (bvs b)) (hcb : b.length ≤ c) (hb : b.length ≤ 140737488355328) (h : ¬ b.length < 8) :
    Calls Tryd.prog 67 #[.slice A b.length c, bv 102] w (FieldPost w (.ok (⟨0, num (b.take 8), ⟨#[]⟩⟩, 8))) := by
  have hw : ∀ w, Calls Tryd.prog 69 #[.int .u8 102] w fun e w' => e = .returned (.tuple #[.int .i64 8, .bool false]) ∧ w = w' := letter_f
  have hd : decide ((b.length : Int) < 8) = false := by simp; omega
  unfold bv
  go_enter Tryd.func67, Tryd.ntmps67
  go_wp2_with (go_at_call 69; refine (hw _).mono ?_; rintro e w' ⟨rfl, rfl⟩)
  go_loop [9, 10] (fun u i => ∃ k : Nat, k ≤ 8 ∧ i = .int .i64 k ∧ u = .int .u64 (num (b.take k))) (fun _ i => 8 - (intOf i).toNat)
  case atStart => exact ⟨0, by omega, rfl, rfl⟩
  case round =>
    obtain ⟨k, hk, rfl, rfl⟩ := hrel
    by_cases hlt : k < 8
    · obtain ⟨ad, rfl, hadb, hcell⟩ := bytes_at hR k (by omega)
      have hb1 : (ad.add k).block < w.heap.size := by rw [add_block]; exact hadb
      have hk0 : (0 : Int) ≤ (k : Int) := by omega
      have hk1 : (k : Int) < (8 : Int) := by omega
      have hk2 : (k : Int) < (b.length : Int) := by omega
      have hk3 : IntKind.i64.wrap ((k : Int) + 1) = (k : Int) + 1 := IntWalk.i64_in _ (by omega)
      have hsn := num_step b k (by omega) (by omega)
      have hx := (b[k]'(by omega)).toNat_lt
      generalize num (b.take k) = u at *
      generalize b[k]'(by omega) = x at *
      have w1 : IntKind.u64.wrap (256 * (u : Int)) = 256 * (u : Int) := IntWalk.u64_in _ (by omega)
      have w2 : IntKind.u64.wrap (x.toNat : Int) = (x.toNat : Int) := IntWalk.u64_in _ (by omega)
      have w3 : IntKind.u64.wrap (256 * (u : Int) + (x.toNat : Int)) = 256 * (u : Int) + (x.toNat : Int) := IntWalk.u64_in _ (by omega)
      have HS := Lib.hid hsn.2
      clear hsn
      go_wp2
      go_round
      case rel => exact ⟨k + 1, by omega, by go_num, by rw [HS.out]; simp⟩
      case measure => simp [intOf]; omega
    · obtain rfl : 8 = k := by omega
      go_wp2
      exact bodyPost_ret (v := .tuple #[rcellV ⟨0, num (b.take 8), ⟨#[]⟩⟩, .int .i64 8, .int .i64 0]) (by simp [results, Tryd.results67, go_sem, rcellV, Cell.zero, erIx, erAll]) rfl ⟨by repeat (first | exact Below.refl _ _ | refine Below.drew ?_ | refine below_drewN ?_ _ | refine Below.alloc ?_ (Nat.le_refl _) _ | refine Below.setCell ?_ (by simp) _), rfl⟩

set_option maxRecDepth 8000 in
set_option maxHeartbeats 800000 in
theorem field_cut (w : World) (A : Option Addr) (c : Nat) (b : Bs) (l : UInt8) (hkl : knownL l = true) (hR : RdC (· < w.heap.size) w A (bvs b)) (hcb : b.length ≤ c) (hb : b.length ≤ 140737488355328) (h : ¬ b.length < width l) (hl : ¬ l = 102) (ht : isText l = true) (h2 : b.length - width l < num (b.take (width l))) :
    Calls Tryd.prog 67 #[.slice A b.length c, bv l] w (FieldPost w (.error .short)) := by
  have hwl := width_le l
  have hw := letter_v l hkl true ht
  have h1 : ((l.toNat : Int) == 102) = false := by
    rw [beq_eq_false_iff_ne]
    intro h
    exact hl (UInt8.toNat_inj.1 (by show l.toNat = 102; omega))
  clear ht hl
  have hu := num_lt (b.take (width l))
  generalize width l = n at *
  have hd : decide ((b.length : Int) < (n : Int)) = false := by simp; omega
  have hd2 : decide (((b.length : Int) - (n : Int)) < (num (b.take n) : Int)) = true := by simp; omega
  unfold bv
  go_enter Tryd.func67, Tryd.ntmps67
  go_wp2_with (go_at_call 69; refine (hw _).mono ?_; rintro e w' ⟨rfl, rfl⟩)
  go_loop [9, 10] (fun u i => ∃ k : Nat, k ≤ n ∧ i = .int .i64 k ∧ u = .int .u64 (num (b.take k))) (fun _ i => n - (intOf i).toNat)
  case atStart => exact ⟨0, by omega, rfl, rfl⟩
  case round =>
    obtain ⟨k, hk, rfl, rfl⟩ := hrel
    by_cases hlt : k < n
    · obtain ⟨ad, rfl, hadb, hcell⟩ := bytes_at hR k (by omega)
      have hb1 : (ad.add k).block < w.heap.size := by rw [add_block]; exact hadb
      have hk0 : (0 : Int) ≤ (k : Int) := by omega
      have hk1 : (k : Int) < (n : Int) := by omega
      have hk2 : (k : Int) < (b.length : Int) := by omega
      have hk3 : IntKind.i64.wrap ((k : Int) + 1) = (k : Int) + 1 := IntWalk.i64_in _ (by omega)
      have hsn := num_step b k (by omega) (by omega)
      have hx := (b[k]'(by omega)).toNat_lt
      generalize num (b.take k) = u at *
      generalize b[k]'(by omega) = x at *
      have w1 : IntKind.u64.wrap (256 * (u : Int)) = 256 * (u : Int) := IntWalk.u64_in _ (by omega)
      have w2 : IntKind.u64.wrap (x.toNat : Int) = (x.toNat : Int) := IntWalk.u64_in _ (by omega)
      have w3 : IntKind.u64.wrap (256 * (u : Int) + (x.toNat : Int)) = 256 * (u : Int) + (x.toNat : Int) := IntWalk.u64_in _ (by omega)
      have HS := Lib.hid hsn.2
      clear hsn
      go_wp2
      go_round
      case rel => exact ⟨k + 1, by omega, by go_num, by rw [HS.out]; simp⟩
      case measure => simp [intOf]; omega
    · obtain rfl : n = k := by omega
      go_wp2
      exact bodyPost_ret (v := .tuple #[rcellV Cell.zero, .int .i64 0, .int .i64 2]) (by simp [results, Tryd.results67, go_sem, rcellV, Cell.zero, erIx, erAll]) rfl ⟨by repeat (first | exact Below.refl _ _ | refine Below.drew ?_ | refine below_drewN ?_ _ | refine Below.alloc ?_ (Nat.le_refl _) _ | refine Below.setCell ?_ (by simp) _), rfl⟩

set_option maxRecDepth 8000 in
set_option maxHeartbeats 800000 in
theorem field_big (w : World) (A : Option Addr) (c : Nat) (b : Bs) (l : UInt8) (hkl : knownL l = true) (hR : RdC (· < w.heap.size) w A (bvs b)) (hcb : b.length ≤ c) (hb : b.length ≤ 140737488355328) (h : ¬ b.length < width l) (hl : ¬ l = 102) (ht : isText l = false) (h2 : num (b.take (width l)) > 9223372036854775807) :
    Calls Tryd.prog 67 #[.slice A b.length c, bv l] w (FieldPost w (.error .range)) := by
  have hwl := width_le l
  have hw := letter_v l hkl false ht
  have h1 : ((l.toNat : Int) == 102) = false := by
    rw [beq_eq_false_iff_ne]
    intro h
    exact hl (UInt8.toNat_inj.1 (by show l.toNat = 102; omega))
  clear ht hl
  have hu := num_lt (b.take (width l))
  generalize width l = n at *
  have hd : decide ((b.length : Int) < (n : Int)) = false := by simp; omega
  unfold bv
  go_enter Tryd.func67, Tryd.ntmps67
  go_wp2_with (go_at_call 69; refine (hw _).mono ?_; rintro e w' ⟨rfl, rfl⟩)
  go_loop [9, 10] (fun u i => ∃ k : Nat, k ≤ n ∧ i = .int .i64 k ∧ u = .int .u64 (num (b.take k))) (fun _ i => n - (intOf i).toNat)
  case atStart => exact ⟨0, by omega, rfl, rfl⟩
  case round =>
    obtain ⟨k, hk, rfl, rfl⟩ := hrel
    by_cases hlt : k < n
    · obtain ⟨ad, rfl, hadb, hcell⟩ := bytes_at hR k (by omega)
      have hb1 : (ad.add k).block < w.heap.size := by rw [add_block]; exact hadb
      have hk0 : (0 : Int) ≤ (k : Int) := by omega
      have hk1 : (k : Int) < (n : Int) := by omega
      have hk2 : (k : Int) < (b.length : Int) := by omega
      have hk3 : IntKind.i64.wrap ((k : Int) + 1) = (k : Int) + 1 := IntWalk.i64_in _ (by omega)
      have hsn := num_step b k (by omega) (by omega)
      have hx := (b[k]'(by omega)).toNat_lt
      generalize num (b.take k) = u at *
      generalize b[k]'(by omega) = x at *
      have w1 : IntKind.u64.wrap (256 * (u : Int)) = 256 * (u : Int) := IntWalk.u64_in _ (by omega)
      have w2 : IntKind.u64.wrap (x.toNat : Int) = (x.toNat : Int) := IntWalk.u64_in _ (by omega)
      have w3 : IntKind.u64.wrap (256 * (u : Int) + (x.toNat : Int)) = 256 * (u : Int) + (x.toNat : Int) := IntWalk.u64_in _ (by omega)
      have HS := Lib.hid hsn.2
      clear hsn
      go_wp2
      go_round
      case rel => exact ⟨k + 1, by omega, by go_num, by rw [HS.out]; simp⟩
      case measure => simp [intOf]; omega
    · obtain rfl : n = k := by omega
      go_wp2
      exact bodyPost_ret (v := .tuple #[rcellV Cell.zero, .int .i64 0, .int .i64 1]) (by simp [results, Tryd.results67, go_sem, rcellV, Cell.zero, erIx, erAll]) rfl ⟨by repeat (first | exact Below.refl _ _ | refine Below.drew ?_ | refine below_drewN ?_ _ | refine Below.alloc ?_ (Nat.le_refl _) _ | refine Below.setCell ?_ (by simp) _), rfl⟩

set_option maxRecDepth 8000 in
set_option maxHeartbeats 800000 in
theorem field_num (w : World) (A : Option Addr) (c : Nat) (b : Bs) (l : UInt8) (hkl : knownL l = true) (hR : RdC (· < w.heap.size) w A (bvs b)) (hcb : b.length ≤ c) (hb : b.length ≤ 140737488355328) (h : ¬ b.length < width l) (hl : ¬ l = 102) (ht : isText l = false) (h2 : ¬ num (b.take (width l)) > 9223372036854775807) :
    Calls Tryd.prog 67 #[.slice A b.length c, bv l] w (FieldPost w (.ok (⟨num (b.take (width l)), 0, ⟨#[]⟩⟩, width l))) := by
  have hwl := width_le l
  have hw := letter_v l hkl false ht
  have h1 : ((l.toNat : Int) == 102) = false := by
    rw [beq_eq_false_iff_ne]
    intro h
    exact hl (UInt8.toNat_inj.1 (by show l.toNat = 102; omega))
  clear ht hl
  have hu := num_lt (b.take (width l))
  generalize width l = n at *
  have hd : decide ((b.length : Int) < (n : Int)) = false := by simp; omega
  unfold bv
  go_enter Tryd.func67, Tryd.ntmps67
  go_wp2_with (go_at_call 69; refine (hw _).mono ?_; rintro e w' ⟨rfl, rfl⟩)
  go_loop [9, 10] (fun u i => ∃ k : Nat, k ≤ n ∧ i = .int .i64 k ∧ u = .int .u64 (num (b.take k))) (fun _ i => n - (intOf i).toNat)
  case atStart => exact ⟨0, by omega, rfl, rfl⟩
  case round =>
    obtain ⟨k, hk, rfl, rfl⟩ := hrel
    by_cases hlt : k < n
    · obtain ⟨ad, rfl, hadb, hcell⟩ := bytes_at hR k (by omega)
      have hb1 : (ad.add k).block < w.heap.size := by rw [add_block]; exact hadb
      have hk0 : (0 : Int) ≤ (k : Int) := by omega
      have hk1 : (k : Int) < (n : Int) := by omega
      have hk2 : (k : Int) < (b.length : Int) := by omega
      have hk3 : IntKind.i64.wrap ((k : Int) + 1) = (k : Int) + 1 := IntWalk.i64_in _ (by omega)
      have hsn := num_step b k (by omega) (by omega)
      have hx := (b[k]'(by omega)).toNat_lt
      generalize num (b.take k) = u at *
      generalize b[k]'(by omega) = x at *
      have w1 : IntKind.u64.wrap (256 * (u : Int)) = 256 * (u : Int) := IntWalk.u64_in _ (by omega)
      have w2 : IntKind.u64.wrap (x.toNat : Int) = (x.toNat : Int) := IntWalk.u64_in _ (by omega)
      have w3 : IntKind.u64.wrap (256 * (u : Int) + (x.toNat : Int)) = 256 * (u : Int) + (x.toNat : Int) := IntWalk.u64_in _ (by omega)
      have HS := Lib.hid hsn.2
      clear hsn
      go_wp2
      go_round
      case rel => exact ⟨k + 1, by omega, by go_num, by rw [HS.out]; simp⟩
      case measure => simp [intOf]; omega
    · obtain rfl : n = k := by omega
      go_wp2
      exact bodyPost_ret (v := .tuple #[rcellV ⟨num (b.take n), 0, ⟨#[]⟩⟩, .int .i64 n, .int .i64 0]) (by simp [results, Tryd.results67, go_sem, rcellV, Cell.zero, erIx, erAll]) rfl ⟨by repeat (first | exact Below.refl _ _ | refine Below.drew ?_ | refine below_drewN ?_ _ | refine Below.alloc ?_ (Nat.le_refl _) _ | refine Below.setCell ?_ (by simp) _), rfl⟩

set_option maxRecDepth 8000 in
set_option maxHeartbeats 800000 in
theorem field_text_mid (w : World) (A : Option Addr) (c : Nat) (b : Bs) (l : UInt8) (hkl : knownL l = true) (hR : RdC (· < w.heap.size) w A (bvs b)) (hcb : b.length ≤ c) (hb : b.length ≤ 140737488355328) (h : ¬ b.length < width l) (hl : ¬ l = 102) (ht : isText l = true) (h2 : ¬ b.length - width l < num (b.take (width l))) (hcn : ¬ c = width l) :
    Calls Tryd.prog 67 #[.slice A b.length c, bv l] w (FieldPost w (.ok (⟨0, 0, ⟨((b.drop (width l)).take (num (b.take (width l)))).toArray⟩⟩, width l + num (b.take (width l))))) := by
  have hwl := width_le l
  have hw := letter_v l hkl true ht
  have h1 : ((l.toNat : Int) == 102) = false := by
    rw [beq_eq_false_iff_ne]
    intro h
    exact hl (UInt8.toNat_inj.1 (by show l.toNat = 102; omega))
  clear ht hl
  have hu := num_lt (b.take (width l))
  generalize width l = n at *
  have hd : decide ((b.length : Int) < (n : Int)) = false := by simp; omega
  have hd2 : decide (((b.length : Int) - (n : Int)) < (num (b.take n) : Int)) = false := by simp; omega
  have hul : ((b.drop n).take (num (b.take n))).length = num (b.take n) := by rw [List.length_take, List.length_drop]; omega
  have hcv : (convert 23 9 (.slice (A.map (·.add n)) (num (b.take n)) (c - n))).run Tryd.prog (w.alloc (.cells #[.int .i64 0, .int .u64 0, .string ⟨#[]⟩] 112)) = .ok (.string ⟨((b.drop n).take (num (b.take n))).toArray⟩) (w.alloc (.cells #[.int .i64 0, .int .u64 0, .string ⟨#[]⟩] 112)) := run_str_of Tryd.underlying23 Tryd.underlying5 Tryd.underlying9 hul.symm (by
    refine RdC.below (B := w.heap.size) (w := w) ?_ ((Below.refl _ _).alloc (Nat.le_refl _) _)
    have h3 := (hR.drop n false (by simp)).take (num (b.take n))
    simpa [bvs, List.map_take, List.map_drop] using h3)
  unfold bv
  go_enter Tryd.func67, Tryd.ntmps67
  go_wp2_with (go_at_call 69; refine (hw _).mono ?_; rintro e w' ⟨rfl, rfl⟩)
  go_loop [9, 10] (fun u i => ∃ k : Nat, k ≤ n ∧ i = .int .i64 k ∧ u = .int .u64 (num (b.take k))) (fun _ i => n - (intOf i).toNat)
  case atStart => exact ⟨0, by omega, rfl, rfl⟩
  case round =>
    obtain ⟨k, hk, rfl, rfl⟩ := hrel
    by_cases hlt : k < n
    · obtain ⟨ad, rfl, hadb, hcell⟩ := bytes_at hR k (by omega)
      have hb1 : (ad.add k).block < w.heap.size := by rw [add_block]; exact hadb
      have hk0 : (0 : Int) ≤ (k : Int) := by omega
      have hk1 : (k : Int) < (n : Int) := by omega
      have hk2 : (k : Int) < (b.length : Int) := by omega
      have hk3 : IntKind.i64.wrap ((k : Int) + 1) = (k : Int) + 1 := IntWalk.i64_in _ (by omega)
      have hsn := num_step b k (by omega) (by omega)
      have hx := (b[k]'(by omega)).toNat_lt
      generalize num (b.take k) = u at *
      generalize b[k]'(by omega) = x at *
      have w1 : IntKind.u64.wrap (256 * (u : Int)) = 256 * (u : Int) := IntWalk.u64_in _ (by omega)
      have w2 : IntKind.u64.wrap (x.toNat : Int) = (x.toNat : Int) := IntWalk.u64_in _ (by omega)
      have w3 : IntKind.u64.wrap (256 * (u : Int) + (x.toNat : Int)) = 256 * (u : Int) + (x.toNat : Int) := IntWalk.u64_in _ (by omega)
      have HS := Lib.hid hsn.2
      clear hsn
      go_wp2
      go_round
      case rel => exact ⟨k + 1, by omega, by go_num, by rw [HS.out]; simp⟩
      case measure => simp [intOf]; omega
    · obtain rfl : n = k := by omega
      go_wp2
      exact bodyPost_ret (v := .tuple #[rcellV ⟨0, 0, ⟨((b.drop n).take (num (b.take n))).toArray⟩⟩, .int .i64 (n + num (b.take n) : Nat), .int .i64 0]) (by simp [results, Tryd.results67, go_sem, rcellV, Cell.zero, erIx, erAll]) rfl ⟨by repeat (first | exact Below.refl _ _ | refine Below.drew ?_ | refine below_drewN ?_ _ | refine Below.alloc ?_ (Nat.le_refl _) _ | refine Below.setCell ?_ (by simp) _), rfl⟩

set_option maxRecDepth 8000 in
set_option maxHeartbeats 800000 in
theorem field_text_end (w : World) (A : Option Addr) (c : Nat) (b : Bs) (l : UInt8) (hkl : knownL l = true) (hR : RdC (· < w.heap.size) w A (bvs b)) (hcb : b.length ≤ c) (hb : b.length ≤ 140737488355328) (h : ¬ b.length < width l) (hl : ¬ l = 102) (ht : isText l = true) (h2 : ¬ b.length - width l < num (b.take (width l))) (hcn : c = width l) :
    Calls Tryd.prog 67 #[.slice A b.length c, bv l] w (FieldPost w (.ok (⟨0, 0, ⟨((b.drop (width l)).take (num (b.take (width l)))).toArray⟩⟩, width l + num (b.take (width l))))) := by
  have hwl := width_le l
  have hw := letter_v l hkl true ht
  have h1 : ((l.toNat : Int) == 102) = false := by
    rw [beq_eq_false_iff_ne]
    intro h
    exact hl (UInt8.toNat_inj.1 (by show l.toNat = 102; omega))
  clear ht hl
  have hu := num_lt (b.take (width l))
  generalize width l = n at *
  have hd : decide ((b.length : Int) < (n : Int)) = false := by simp; omega
  have hd2 : decide (((b.length : Int) - (n : Int)) < (num (b.take n) : Int)) = false := by simp; omega
  have hul : (b.drop n).take (num (b.take n)) = [] := by rw [List.drop_eq_nil_of_le (by omega), List.take_nil]
  have hcv : (convert 23 9 (.slice A (num (b.take n)) 0)).run Tryd.prog (w.alloc (.cells #[.int .i64 0, .int .u64 0, .string ⟨#[]⟩] 112)) = .ok (.string ⟨((b.drop n).take (num (b.take n))).toArray⟩) (w.alloc (.cells #[.int .i64 0, .int .u64 0, .string ⟨#[]⟩] 112)) := by
    rw [hul]
    exact run_str_of (ok := fun _ => False) Tryd.underlying23 Tryd.underlying5 Tryd.underlying9 (bs := []) (by simp only [List.length_nil]; omega) (RdC.nil _ _ _)
  clear hul
  unfold bv
  go_enter Tryd.func67, Tryd.ntmps67
  go_wp2_with (go_at_call 69; refine (hw _).mono ?_; rintro e w' ⟨rfl, rfl⟩)
  go_loop [9, 10] (fun u i => ∃ k : Nat, k ≤ n ∧ i = .int .i64 k ∧ u = .int .u64 (num (b.take k))) (fun _ i => n - (intOf i).toNat)
  case atStart => exact ⟨0, by omega, rfl, rfl⟩
  case round =>
    obtain ⟨k, hk, rfl, rfl⟩ := hrel
    by_cases hlt : k < n
    · obtain ⟨ad, rfl, hadb, hcell⟩ := bytes_at hR k (by omega)
      have hb1 : (ad.add k).block < w.heap.size := by rw [add_block]; exact hadb
      have hk0 : (0 : Int) ≤ (k : Int) := by omega
      have hk1 : (k : Int) < (n : Int) := by omega
      have hk2 : (k : Int) < (b.length : Int) := by omega
      have hk3 : IntKind.i64.wrap ((k : Int) + 1) = (k : Int) + 1 := IntWalk.i64_in _ (by omega)
      have hsn := num_step b k (by omega) (by omega)
      have hx := (b[k]'(by omega)).toNat_lt
      generalize num (b.take k) = u at *
      generalize b[k]'(by omega) = x at *
      have w1 : IntKind.u64.wrap (256 * (u : Int)) = 256 * (u : Int) := IntWalk.u64_in _ (by omega)
      have w2 : IntKind.u64.wrap (x.toNat : Int) = (x.toNat : Int) := IntWalk.u64_in _ (by omega)
      have w3 : IntKind.u64.wrap (256 * (u : Int) + (x.toNat : Int)) = 256 * (u : Int) + (x.toNat : Int) := IntWalk.u64_in _ (by omega)
      have HS := Lib.hid hsn.2
      clear hsn
      go_wp2
      go_round
      case rel => exact ⟨k + 1, by omega, by go_num, by rw [HS.out]; simp⟩
      case measure => simp [intOf]; omega
    · obtain rfl : n = k := by omega
      go_wp2
      exact bodyPost_ret (v := .tuple #[rcellV ⟨0, 0, ⟨((b.drop n).take (num (b.take n))).toArray⟩⟩, .int .i64 (n + num (b.take n) : Nat), .int .i64 0]) (by simp [results, Tryd.results67, go_sem, rcellV, Cell.zero, erIx, erAll]) rfl ⟨by repeat (first | exact Below.refl _ _ | refine Below.drew ?_ | refine below_drewN ?_ _ | refine Below.alloc ?_ (Nat.le_refl _) _ | refine Below.setCell ?_ (by simp) _), rfl⟩

/-- The reference's field, whatever bytes and (known) letter. -/
theorem field_any (w : World) (A : Option Addr) (n c : Nat) (b : Bs) (l : UInt8) (hn : n = b.length) (hkl : knownL l = true) (hR : RdC (· < w.heap.size) w A (bvs b)) (hcb : b.length ≤ c) (hb : b.length ≤ 140737488355328) :
    Calls Tryd.prog 67 #[.slice A n c, bv l] w (FieldPost w (decCell l b)) := by
  subst hn
  unfold decCell
  by_cases h0 : b.length < width l
  · rw [if_pos h0]
    exact field_short w A c b l hkl hR hcb hb h0 _ rfl
  · rw [if_neg h0]
    by_cases hl : l = 102
    · subst hl
      have e8 : width 102 = 8 := by decide
      rw [if_pos rfl, e8]
      exact field_f w A c b hR hcb hb (by rw [e8] at h0; exact h0)
    · rw [if_neg hl]
      cases ht : isText l with
      | true =>
        rw [if_pos rfl]
        by_cases h2 : b.length - width l < num (b.take (width l))
        · rw [if_pos h2]
          exact field_cut w A c b l hkl hR hcb hb h0 hl ht h2
        · rw [if_neg h2]
          by_cases hcn : c = width l
          · exact field_text_end w A c b l hkl hR hcb hb h0 hl ht h2 hcn
          · exact field_text_mid w A c b l hkl hR hcb hb h0 hl ht h2 hcn
      | false =>
        rw [if_neg (by simp)]
        by_cases h2 : num (b.take (width l)) > 9223372036854775807
        · rw [if_pos h2]
          exact field_big w A c b l hkl hR hcb hb h0 hl ht h2
        · rw [if_neg h2]
          exact field_num w A c b l hkl hR hcb hb h0 hl ht h2
end Go.Proofs.YtpekagkhgegefaaDoor
