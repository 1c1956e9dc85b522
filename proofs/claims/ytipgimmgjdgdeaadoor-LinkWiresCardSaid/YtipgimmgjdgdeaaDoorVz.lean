/- Walks of package fields, fourth part, for seats that do not reach Size: get. -/
import Derived.Test.YtipgimmgjdgdeaaDoorFy
import Derived.Test.YtipgimmgjdgdeaaDoorHu
set_option linter.unusedVariables false
set_option linter.unusedSimpArgs false
set_option linter.unnecessarySimpa false
namespace Go.Proofs.YtipgimmgjdgdeaaDoor
open Go.RowKit
attribute [local go_sem] run_store_flt

def GetPost (es : Er → Addr) (w : World) (r : Except Er (Cell × Nat)) (e : Ending) (w' : World) : Prop :=
  Below w.heap.size w w' ∧ match r with
  | .ok (c, n) => e = .returned (.tuple #[cellV c, .int .i64 n, .nilIface])
  | .error er => e = .returned (.tuple #[cellV Cell.zero, .int .i64 0, errV (es er)])

set_option maxRecDepth 8000 in
set_option maxHeartbeats 400000 in
theorem get_short (es : Er → Addr) (w : World) (A : Option Addr) (c : Nat) (b : Bs) (l : UInt8) (hE : E5 w.heap.size w es) (hb : b.length ≤ 140737488355328) (h : b.length < width l) :
    Calls Tryd.prog 91 #[.slice A b.length c, bv l] w (GetPost es w (.error .short)) := by
  obtain ⟨hg, _, hc, _⟩ := hE.short
  unfold bv
  go_enter Tryd.func91, Tryd.ntmps91
  go_wp2_with (first
    | (go_at_call 84; refine (width_any l _).mono ?_; rintro e w' ⟨rfl, rfl⟩))
  go_region
  go_wp2
  exact bodyPost_ret (v := .tuple #[cellV Cell.zero, .int .i64 0, errV (es .short)]) (by simp [results, Tryd.results91, go_sem, cellV, Cell.zero, errV]) rfl ⟨((Below.refl _ _).alloc (Nat.le_refl _) _).drew, rfl⟩

theorem or_byte (u : Nat) (x : UInt8) (h : u < 72057594037927936) : bits .or .u64 (IntKind.u64.wrap ((u : Int) * 256)) (IntKind.u64.wrap (x.toNat : Int)) = ((256 * u + x.toNat : Nat) : Int) := by
  have hx := x.toNat_lt
  have e1 : IntKind.u64.wrap ((u : Int) * 256) = ((256 * u : Nat) : Int) := by rw [IntWalk.u64_in _ (by omega)]; omega
  have e2 : IntKind.u64.wrap (x.toNat : Int) = ((x.toNat : Nat) : Int) := IntWalk.u64_in _ (by omega)
  rw [e1, e2]
  show IntKind.u64.wrap ((BitVec.ofInt 64 ((256 * u : Nat) : Int) ||| BitVec.ofInt 64 (x.toNat : Int)).toNat : Int) = _
  have h64 : ∀ n : Nat, n < 18446744073709551616 → (BitVec.ofInt 64 (n : Int)).toNat = n := fun n hn => by
    rw [BitVec.ofInt_natCast, BitVec.toNat_ofNat]; exact Nat.mod_eq_of_lt (by omega)
  rw [BitVec.toNat_or, h64 _ (by omega), h64 _ (by omega)]
  have e3 : 256 * u ||| x.toNat = 256 * u + x.toNat := (Nat.two_pow_add_eq_or_of_lt (i := 8) (by omega) u).symm
  rw [e3]
  exact IntWalk.u64_in _ (by omega)
theorem num_take (b : Bs) (k : Nat) (h : k < b.length) (h8 : k < 8) : Value.int .u64 (bits .or .u64 (IntKind.u64.wrap ((num (b.take k) : Int) * 256)) (IntKind.u64.wrap ((b[k]'h).toNat : Int))) = .int .u64 (num (b.take (k + 1))) := by
  have hlt := num_lt (b.take k)
  rw [List.length_take, Nat.min_eq_left (by omega)] at hlt
  have h7 : 256 ^ k ≤ 256 ^ 7 := Nat.pow_le_pow_right (by omega) (by omega)
  rw [or_byte _ _ (by omega), List.take_succ_eq_append_getElem h, num_snoc]
theorem run_f64from (n : Int) (w : World) : (callFunc 70 #[.int .u64 n]).run Tryd.prog w = .ok (.value (.float .f64 n.toNat)) w := by
  rw [run_callFunc_extern Tryd.func70 (by kernel_rfl) (by kernel_rfl) (by kernel_rfl) (e := Extern.MathFloatBits.float64frombits) (by kernel_rfl)]
  rfl

set_option maxRecDepth 8000 in
set_option maxHeartbeats 800000 in
theorem get_f (es : Er → Addr) (w : World) (A : Option Addr) (c : Nat) (b : Bs)  (hR : RdC (· < w.heap.size) w A (bvs b)) (hcb : b.length ≤ c) (hb : b.length ≤ 140737488355328) (h : ¬ b.length < 8) :
    Calls Tryd.prog 91 #[.slice A b.length c, bv 102] w (GetPost es w (.ok (⟨0, num (b.take 8), ⟨#[]⟩⟩, 8))) := by
  have hw : ∀ w, Calls Tryd.prog 84 #[.int .u8 102] w fun e w' => e = .returned (.int .i64 8) ∧ w = w' := fun w => width_any 102 w
  have hd : decide ((b.length : Int) < 8) = false := by simp; omega
  have hfb := run_f64from
  unfold bv
  go_enter Tryd.func91, Tryd.ntmps91
  go_wp2_with (first
    | (go_at_call 84; refine (hw _).mono ?_; rintro e w' ⟨rfl, rfl⟩))
  go_loop [8, 23] (fun u i => ∃ k : Nat, k ≤ 8 ∧ i = .int .i64 k ∧ u = .int .u64 (num (b.take k))) (fun _ i => 8 - (intOf i).toNat)
  case atStart => exact ⟨0, by omega, rfl, rfl⟩
  case round =>
    obtain ⟨k, hk, rfl, rfl⟩ := hrel
    by_cases hlt : k < 8
    · obtain ⟨ad, rfl, hadb, hcell⟩ := bytes_at hR k (by omega)
      have hb1 : (ad.add k).block < w.heap.size := by rw [add_block]; exact hadb
      have hk1 : (k : Int) < (8 : Int) := by omega
      have hsn := num_take b k (by omega) (by omega)
      generalize num (b.take k) = u at *
      generalize b[k]'(by omega) = x at *
      have HS := Lib.hid hsn
      clear hsn
      go_wp2
      go_round
      case rel => exact ⟨k + 1, by omega, by go_num, HS.out⟩
      case measure => simp [intOf]; omega
    · obtain rfl : 8 = k := by omega
      go_wp2
      exact bodyPost_ret (v := .tuple #[cellV ⟨0, num (b.take 8), ⟨#[]⟩⟩, .int .i64 8, .nilIface]) (by simp [results, Tryd.results91, go_sem, cellV, Cell.zero, errV]) rfl ⟨by repeat (first | exact Below.refl _ _ | refine Below.drew ?_ | refine below_drewN ?_ _ | refine Below.alloc ?_ (Nat.le_refl _) _ | refine Below.setCell ?_ (by simp) _), rfl⟩

set_option maxRecDepth 8000 in
set_option maxHeartbeats 800000 in
theorem get_cut (es : Er → Addr) (w : World) (A : Option Addr) (c : Nat) (b : Bs) (l : UInt8) (hE : E5 w.heap.size w es) (hR : RdC (· < w.heap.size) w A (bvs b)) (hcb : b.length ≤ c) (hb : b.length ≤ 140737488355328) (h : ¬ b.length < width l) (hl : ¬ l = 102) (ht : isText l = true) (h2 : b.length - width l < num (b.take (width l))) :
    Calls Tryd.prog 91 #[.slice A b.length c, bv l] w (GetPost es w (.error .short)) := by
  have hwl := width_le l
  have hw : ∀ w, Calls Tryd.prog 84 #[.int .u8 l.toNat] w fun e w' => e = .returned (.int .i64 (width l)) ∧ w = w' := fun w => width_any l w
  have htx : ∀ w, Calls Tryd.prog 86 #[.int .u8 l.toNat] w fun e w' => e = .returned (.bool true) ∧ w = w' := fun w => by have := text_any l w; rw [ht] at this; exact this
  have h1 : ((l.toNat : Int) == 102) = false := by
    rw [beq_eq_false_iff_ne]
    intro h
    exact hl (UInt8.toNat_inj.1 (by show l.toNat = 102; omega))
  clear ht hl
  have hu := num_lt (b.take (width l))
  generalize width l = n at *
  have hd : decide ((b.length : Int) < (n : Int)) = false := by simp; omega
  obtain ⟨hg, _, hc, _⟩ := hE.short
  have hd2 : decide (((b.length : Int) - (n : Int)) < (num (b.take n) : Int)) = true := by simp; omega
  unfold bv
  go_enter Tryd.func91, Tryd.ntmps91
  go_wp2_with (first
    | (go_at_call 84; refine (hw _).mono ?_; rintro e w' ⟨rfl, rfl⟩))
  go_loop [8, 23] (fun u i => ∃ k : Nat, k ≤ n ∧ i = .int .i64 k ∧ u = .int .u64 (num (b.take k))) (fun _ i => n - (intOf i).toNat)
  case atStart => exact ⟨0, by omega, rfl, rfl⟩
  case round =>
    obtain ⟨k, hk, rfl, rfl⟩ := hrel
    by_cases hlt : k < n
    · obtain ⟨ad, rfl, hadb, hcell⟩ := bytes_at hR k (by omega)
      have hb1 : (ad.add k).block < w.heap.size := by rw [add_block]; exact hadb
      have hk1 : (k : Int) < (n : Int) := by omega
      have hsn := num_take b k (by omega) (by omega)
      generalize num (b.take k) = u at *
      generalize b[k]'(by omega) = x at *
      have HS := Lib.hid hsn
      clear hsn
      go_wp2
      go_round
      case rel => exact ⟨k + 1, by omega, by go_num, HS.out⟩
      case measure => simp [intOf]; omega
    · obtain rfl : n = k := by omega
      go_wp2_with (go_at_call 86; refine (htx _).mono ?_; rintro e w' ⟨rfl, rfl⟩)
      go_region
      go_wp2
      exact bodyPost_ret (v := .tuple #[cellV Cell.zero, .int .i64 0, errV (es .short)]) (by simp [results, Tryd.results91, go_sem, cellV, Cell.zero, errV]) rfl ⟨by repeat (first | exact Below.refl _ _ | refine Below.drew ?_ | refine below_drewN ?_ _ | refine Below.alloc ?_ (Nat.le_refl _) _ | refine Below.setCell ?_ (by simp) _), rfl⟩

set_option maxRecDepth 8000 in
set_option maxHeartbeats 800000 in
theorem get_big (es : Er → Addr) (w : World) (A : Option Addr) (c : Nat) (b : Bs) (l : UInt8) (hE : E5 w.heap.size w es) (hR : RdC (· < w.heap.size) w A (bvs b)) (hcb : b.length ≤ c) (hb : b.length ≤ 140737488355328) (h : ¬ b.length < width l) (hl : ¬ l = 102) (ht : isText l = false) (h2 : num (b.take (width l)) > 9223372036854775807) :
    Calls Tryd.prog 91 #[.slice A b.length c, bv l] w (GetPost es w (.error .range)) := by
  have hwl := width_le l
  have hw : ∀ w, Calls Tryd.prog 84 #[.int .u8 l.toNat] w fun e w' => e = .returned (.int .i64 (width l)) ∧ w = w' := fun w => width_any l w
  have htx : ∀ w, Calls Tryd.prog 86 #[.int .u8 l.toNat] w fun e w' => e = .returned (.bool false) ∧ w = w' := fun w => by have := text_any l w; rw [ht] at this; exact this
  have h1 : ((l.toNat : Int) == 102) = false := by
    rw [beq_eq_false_iff_ne]
    intro h
    exact hl (UInt8.toNat_inj.1 (by show l.toNat = 102; omega))
  clear ht hl
  have hu := num_lt (b.take (width l))
  generalize width l = n at *
  have hd : decide ((b.length : Int) < (n : Int)) = false := by simp; omega
  obtain ⟨hg, _, hc, _⟩ := hE.range
  unfold bv
  go_enter Tryd.func91, Tryd.ntmps91
  go_wp2_with (first
    | (go_at_call 84; refine (hw _).mono ?_; rintro e w' ⟨rfl, rfl⟩))
  go_loop [8, 23] (fun u i => ∃ k : Nat, k ≤ n ∧ i = .int .i64 k ∧ u = .int .u64 (num (b.take k))) (fun _ i => n - (intOf i).toNat)
  case atStart => exact ⟨0, by omega, rfl, rfl⟩
  case round =>
    obtain ⟨k, hk, rfl, rfl⟩ := hrel
    by_cases hlt : k < n
    · obtain ⟨ad, rfl, hadb, hcell⟩ := bytes_at hR k (by omega)
      have hb1 : (ad.add k).block < w.heap.size := by rw [add_block]; exact hadb
      have hk1 : (k : Int) < (n : Int) := by omega
      have hsn := num_take b k (by omega) (by omega)
      generalize num (b.take k) = u at *
      generalize b[k]'(by omega) = x at *
      have HS := Lib.hid hsn
      clear hsn
      go_wp2
      go_round
      case rel => exact ⟨k + 1, by omega, by go_num, HS.out⟩
      case measure => simp [intOf]; omega
    · obtain rfl : n = k := by omega
      go_wp2_with (go_at_call 86; refine (htx _).mono ?_; rintro e w' ⟨rfl, rfl⟩)
      go_region
      go_wp2
      exact bodyPost_ret (v := .tuple #[cellV Cell.zero, .int .i64 0, errV (es .range)]) (by simp [results, Tryd.results91, go_sem, cellV, Cell.zero, errV]) rfl ⟨by repeat (first | exact Below.refl _ _ | refine Below.drew ?_ | refine below_drewN ?_ _ | refine Below.alloc ?_ (Nat.le_refl _) _ | refine Below.setCell ?_ (by simp) _), rfl⟩

set_option maxRecDepth 8000 in
set_option maxHeartbeats 800000 in
theorem get_num (es : Er → Addr) (w : World) (A : Option Addr) (c : Nat) (b : Bs) (l : UInt8) (hE : E5 w.heap.size w es) (hR : RdC (· < w.heap.size) w A (bvs b)) (hcb : b.length ≤ c) (hb : b.length ≤ 140737488355328) (h : ¬ b.length < width l) (hl : ¬ l = 102) (ht : isText l = false) (h2 : ¬ num (b.take (width l)) > 9223372036854775807) :
    Calls Tryd.prog 91 #[.slice A b.length c, bv l] w (GetPost es w (.ok (⟨num (b.take (width l)), 0, ⟨#[]⟩⟩, width l))) := by
  have hwl := width_le l
  have hw : ∀ w, Calls Tryd.prog 84 #[.int .u8 l.toNat] w fun e w' => e = .returned (.int .i64 (width l)) ∧ w = w' := fun w => width_any l w
  have htx : ∀ w, Calls Tryd.prog 86 #[.int .u8 l.toNat] w fun e w' => e = .returned (.bool false) ∧ w = w' := fun w => by have := text_any l w; rw [ht] at this; exact this
  have h1 : ((l.toNat : Int) == 102) = false := by
    rw [beq_eq_false_iff_ne]
    intro h
    exact hl (UInt8.toNat_inj.1 (by show l.toNat = 102; omega))
  clear ht hl
  have hu := num_lt (b.take (width l))
  generalize width l = n at *
  have hd : decide ((b.length : Int) < (n : Int)) = false := by simp; omega
  unfold bv
  go_enter Tryd.func91, Tryd.ntmps91
  go_wp2_with (first
    | (go_at_call 84; refine (hw _).mono ?_; rintro e w' ⟨rfl, rfl⟩))
  go_loop [8, 23] (fun u i => ∃ k : Nat, k ≤ n ∧ i = .int .i64 k ∧ u = .int .u64 (num (b.take k))) (fun _ i => n - (intOf i).toNat)
  case atStart => exact ⟨0, by omega, rfl, rfl⟩
  case round =>
    obtain ⟨k, hk, rfl, rfl⟩ := hrel
    by_cases hlt : k < n
    · obtain ⟨ad, rfl, hadb, hcell⟩ := bytes_at hR k (by omega)
      have hb1 : (ad.add k).block < w.heap.size := by rw [add_block]; exact hadb
      have hk1 : (k : Int) < (n : Int) := by omega
      have hsn := num_take b k (by omega) (by omega)
      generalize num (b.take k) = u at *
      generalize b[k]'(by omega) = x at *
      have HS := Lib.hid hsn
      clear hsn
      go_wp2
      go_round
      case rel => exact ⟨k + 1, by omega, by go_num, HS.out⟩
      case measure => simp [intOf]; omega
    · obtain rfl : n = k := by omega
      go_wp2_with (go_at_call 86; refine (htx _).mono ?_; rintro e w' ⟨rfl, rfl⟩)
      exact bodyPost_ret (v := .tuple #[cellV ⟨num (b.take n), 0, ⟨#[]⟩⟩, .int .i64 n, .nilIface]) (by simp [results, Tryd.results91, go_sem, cellV, Cell.zero, errV]) rfl ⟨by repeat (first | exact Below.refl _ _ | refine Below.drew ?_ | refine below_drewN ?_ _ | refine Below.alloc ?_ (Nat.le_refl _) _ | refine Below.setCell ?_ (by simp) _), rfl⟩

set_option maxRecDepth 8000 in
set_option maxHeartbeats 800000 in
theorem get_text_mid (es : Er → Addr) (w : World) (A : Option Addr) (c : Nat) (b : Bs) (l : UInt8) (hE : E5 w.heap.size w es) (hR : RdC (· < w.heap.size) w A (bvs b)) (hcb : b.length ≤ c) (hb : b.length ≤ 140737488355328) (h : ¬ b.length < width l) (hl : ¬ l = 102) (ht : isText l = true) (h2 : ¬ b.length - width l < num (b.take (width l))) (hcn : ¬ c = width l) :
    Calls Tryd.prog 91 #[.slice A b.length c, bv l] w (GetPost es w (.ok (⟨0, 0, ⟨((b.drop (width l)).take (num (b.take (width l)))).toArray⟩⟩, width l + num (b.take (width l))))) := by
  have hwl := width_le l
  have hw : ∀ w, Calls Tryd.prog 84 #[.int .u8 l.toNat] w fun e w' => e = .returned (.int .i64 (width l)) ∧ w = w' := fun w => width_any l w
  have htx : ∀ w, Calls Tryd.prog 86 #[.int .u8 l.toNat] w fun e w' => e = .returned (.bool true) ∧ w = w' := fun w => by have := text_any l w; rw [ht] at this; exact this
  have h1 : ((l.toNat : Int) == 102) = false := by
    rw [beq_eq_false_iff_ne]
    intro h
    exact hl (UInt8.toNat_inj.1 (by show l.toNat = 102; omega))
  clear ht hl
  have hu := num_lt (b.take (width l))
  generalize width l = n at *
  have hd : decide ((b.length : Int) < (n : Int)) = false := by simp; omega
  have hd2 : decide (((b.length : Int) - (n : Int)) < (num (b.take n) : Int)) = false := by simp; omega
  have hul : ((b.drop n).take (num (b.take n))).length = num (b.take n) := by rw [List.length_take, List.length_drop]; omega
  have hcv : (convert 31 9 (.slice (A.map (·.add n)) (num (b.take n)) (c - n))).run Tryd.prog (w.alloc (.cells #[.int .i64 0, .float .f64 0, .string ⟨#[]⟩] 121)) = .ok (.string ⟨((b.drop n).take (num (b.take n))).toArray⟩) (w.alloc (.cells #[.int .i64 0, .float .f64 0, .string ⟨#[]⟩] 121)) := run_str_of Tryd.underlying31 Tryd.underlying5 Tryd.underlying9 hul.symm (by
    refine RdC.below (B := w.heap.size) (w := w) ?_ ((Below.refl _ _).alloc (Nat.le_refl _) _)
    have h3 := (hR.drop n false (by simp)).take (num (b.take n))
    simpa [bvs, List.map_take, List.map_drop] using h3)
  unfold bv
  go_enter Tryd.func91, Tryd.ntmps91
  go_wp2_with (first
    | (go_at_call 84; refine (hw _).mono ?_; rintro e w' ⟨rfl, rfl⟩))
  go_loop [8, 23] (fun u i => ∃ k : Nat, k ≤ n ∧ i = .int .i64 k ∧ u = .int .u64 (num (b.take k))) (fun _ i => n - (intOf i).toNat)
  case atStart => exact ⟨0, by omega, rfl, rfl⟩
  case round =>
    obtain ⟨k, hk, rfl, rfl⟩ := hrel
    by_cases hlt : k < n
    · obtain ⟨ad, rfl, hadb, hcell⟩ := bytes_at hR k (by omega)
      have hb1 : (ad.add k).block < w.heap.size := by rw [add_block]; exact hadb
      have hk1 : (k : Int) < (n : Int) := by omega
      have hsn := num_take b k (by omega) (by omega)
      generalize num (b.take k) = u at *
      generalize b[k]'(by omega) = x at *
      have HS := Lib.hid hsn
      clear hsn
      go_wp2
      go_round
      case rel => exact ⟨k + 1, by omega, by go_num, HS.out⟩
      case measure => simp [intOf]; omega
    · obtain rfl : n = k := by omega
      go_wp2_with (go_at_call 86; refine (htx _).mono ?_; rintro e w' ⟨rfl, rfl⟩)
      exact bodyPost_ret (v := .tuple #[cellV ⟨0, 0, ⟨((b.drop n).take (num (b.take n))).toArray⟩⟩, .int .i64 (n + num (b.take n) : Nat), .nilIface]) (by simp [results, Tryd.results91, go_sem, cellV, Cell.zero, errV]) rfl ⟨by repeat (first | exact Below.refl _ _ | refine Below.drew ?_ | refine below_drewN ?_ _ | refine Below.alloc ?_ (Nat.le_refl _) _ | refine Below.setCell ?_ (by simp) _), rfl⟩

set_option maxRecDepth 8000 in
set_option maxHeartbeats 800000 in
theorem get_text_end (es : Er → Addr) (w : World) (A : Option Addr) (c : Nat) (b : Bs) (l : UInt8) (hE : E5 w.heap.size w es) (hR : RdC (· < w.heap.size) w A (bvs b)) (hcb : b.length ≤ c) (hb : b.length ≤ 140737488355328) (h : ¬ b.length < width l) (hl : ¬ l = 102) (ht : isText l = true) (h2 : ¬ b.length - width l < num (b.take (width l))) (hcn : c = width l) :
    Calls Tryd.prog 91 #[.slice A b.length c, bv l] w (GetPost es w (.ok (⟨0, 0, ⟨((b.drop (width l)).take (num (b.take (width l)))).toArray⟩⟩, width l + num (b.take (width l))))) := by
  have hwl := width_le l
  have hw : ∀ w, Calls Tryd.prog 84 #[.int .u8 l.toNat] w fun e w' => e = .returned (.int .i64 (width l)) ∧ w = w' := fun w => width_any l w
  have htx : ∀ w, Calls Tryd.prog 86 #[.int .u8 l.toNat] w fun e w' => e = .returned (.bool true) ∧ w = w' := fun w => by have := text_any l w; rw [ht] at this; exact this
  have h1 : ((l.toNat : Int) == 102) = false := by
    rw [beq_eq_false_iff_ne]
    intro h
    exact hl (UInt8.toNat_inj.1 (by show l.toNat = 102; omega))
  clear ht hl
  have hu := num_lt (b.take (width l))
  generalize width l = n at *
  have hd : decide ((b.length : Int) < (n : Int)) = false := by simp; omega
  have hd2 : decide (((b.length : Int) - (n : Int)) < (num (b.take n) : Int)) = false := by simp; omega
  have hul : (b.drop n).take (num (b.take n)) = [] := by rw [List.drop_eq_nil_of_le (by omega), List.take_nil]
  have hcv : (convert 31 9 (.slice A (num (b.take n)) 0)).run Tryd.prog (w.alloc (.cells #[.int .i64 0, .float .f64 0, .string ⟨#[]⟩] 121)) = .ok (.string ⟨((b.drop n).take (num (b.take n))).toArray⟩) (w.alloc (.cells #[.int .i64 0, .float .f64 0, .string ⟨#[]⟩] 121)) := by
    rw [hul]
    exact run_str_of (ok := fun _ => False) Tryd.underlying31 Tryd.underlying5 Tryd.underlying9 (bs := []) (by simp only [List.length_nil]; omega) (RdC.nil _ _ _)
  clear hul
  unfold bv
  go_enter Tryd.func91, Tryd.ntmps91
  go_wp2_with (first
    | (go_at_call 84; refine (hw _).mono ?_; rintro e w' ⟨rfl, rfl⟩))
  go_loop [8, 23] (fun u i => ∃ k : Nat, k ≤ n ∧ i = .int .i64 k ∧ u = .int .u64 (num (b.take k))) (fun _ i => n - (intOf i).toNat)
  case atStart => exact ⟨0, by omega, rfl, rfl⟩
  case round =>
    obtain ⟨k, hk, rfl, rfl⟩ := hrel
    by_cases hlt : k < n
    · obtain ⟨ad, rfl, hadb, hcell⟩ := bytes_at hR k (by omega)
      have hb1 : (ad.add k).block < w.heap.size := by rw [add_block]; exact hadb
      have hk1 : (k : Int) < (n : Int) := by omega
      have hsn := num_take b k (by omega) (by omega)
      generalize num (b.take k) = u at *
      generalize b[k]'(by omega) = x at *
      have HS := Lib.hid hsn
      clear hsn
      go_wp2
      go_round
      case rel => exact ⟨k + 1, by omega, by go_num, HS.out⟩
      case measure => simp [intOf]; omega
    · obtain rfl : n = k := by omega
      go_wp2_with (go_at_call 86; refine (htx _).mono ?_; rintro e w' ⟨rfl, rfl⟩)
      exact bodyPost_ret (v := .tuple #[cellV ⟨0, 0, ⟨((b.drop n).take (num (b.take n))).toArray⟩⟩, .int .i64 (n + num (b.take n) : Nat), .nilIface]) (by simp [results, Tryd.results91, go_sem, cellV, Cell.zero, errV]) rfl ⟨by repeat (first | exact Below.refl _ _ | refine Below.drew ?_ | refine below_drewN ?_ _ | refine Below.alloc ?_ (Nat.le_refl _) _ | refine Below.setCell ?_ (by simp) _), rfl⟩


/-- get of every bytes and letter. -/
theorem get_any (es : Er → Addr) (w : World) (A : Option Addr) (n c : Nat) (b : Bs) (l : UInt8) (hn : n = b.length) (hE : E5 w.heap.size w es) (hR : RdC (· < w.heap.size) w A (bvs b)) (hcb : b.length ≤ c) (hb : b.length ≤ 140737488355328) :
    Calls Tryd.prog 91 #[.slice A n c, bv l] w (GetPost es w (decCell l b)) := by
  subst hn
  unfold decCell
  by_cases h : b.length < width l
  · rw [if_pos h]; exact get_short es w A c b l hE hb h
  · rw [if_neg h]
    by_cases hl : l = 102
    · rw [if_pos hl]
      subst hl
      exact get_f es w A c b hR hcb hb h
    · rw [if_neg hl]
      cases ht : isText l with
      | true =>
        rw [if_pos rfl]
        by_cases h2 : b.length - width l < num (b.take (width l))
        · rw [if_pos h2]; exact get_cut es w A c b l hE hR hcb hb h hl ht h2
        · rw [if_neg h2]
          by_cases hcn : c = width l
          · exact get_text_end es w A c b l hE hR hcb hb h hl ht h2 hcn
          · exact get_text_mid es w A c b l hE hR hcb hb h hl ht h2 hcn
      | false =>
        rw [if_neg (by simp)]
        by_cases h2 : num (b.take (width l)) > 9223372036854775807
        · rw [if_pos h2]; exact get_big es w A c b l hE hR hcb hb h hl ht h2
        · rw [if_neg h2]; exact get_num es w A c b l hE hR hcb hb h hl ht h2
end Go.Proofs.YtipgimmgjdgdeaaDoor
