/- Walks of the reference of layer 1, first part: letter, Known, Number, fits. -/
import Derived.Test.YtpekagkhgegefaaDoorFx
import Derived.Test.YtpekagkhgegefaaDoorVd
import Derived.OwnWalk
set_option linter.unusedVariables false
set_option linter.unusedSimpArgs false
set_option linter.unnecessarySimpa false
namespace Go.Proofs.YtpekagkhgegefaaDoor
open Go.RowKit

theorem encAll_pre : ∀ (ls : Bs) (cs : List Cell) (bs : Bs) (k : Nat), cs.length = ls.length → encAll ls cs = .ok bs → ∃ acc, encAll (ls.take k) (cs.take k) = .ok acc
  | ls, cs, bs, 0, _, _ => ⟨[], by simp [encAll]⟩
  | [], [], bs, k + 1, _, _ => ⟨[], by simp [encAll]⟩
  | l :: ls, c :: cs, bs, k + 1, hl, h => by
    simp only [encAll] at h
    cases hc : encCell l c with
    | error e => rw [hc] at h; cases h
    | ok a =>
      rw [hc] at h
      simp only [Except.bind] at h
      cases hr : encAll ls cs with
      | error e => rw [hr] at h; cases h
      | ok r =>
        obtain ⟨acc, ha⟩ := encAll_pre ls cs r k (by simpa using hl) hr
        exact ⟨a ++ acc, by simp [encAll, hc, ha, Except.bind, Except.map]⟩
  | l :: ls, [], bs, k + 1, hl, _ => absurd hl (by simp)
  | [], c :: cs, bs, k + 1, hl, _ => absurd hl (by simp)
theorem encAll_cell : ∀ (ls : Bs) (cs : List Cell) (bs : Bs) (k : Nat) (h1 : k < ls.length) (h2 : k < cs.length), encAll ls cs = .ok bs → ∃ b, encCell ls[k] cs[k] = .ok b
  | l :: ls, c :: cs, bs, 0, _, _, h => by
    simp only [encAll] at h
    cases hc : encCell l c with
    | error e => rw [hc] at h; cases h
    | ok a => exact ⟨a, hc⟩
  | l :: ls, c :: cs, bs, k + 1, h1, h2, h => by
    simp only [encAll] at h
    cases hc : encCell l c with
    | error e => rw [hc] at h; cases h
    | ok a =>
      rw [hc] at h
      simp only [Except.bind] at h
      cases hr : encAll ls cs with
      | error e => rw [hr] at h; cases h
      | ok r => exact encAll_cell ls cs r k (by simpa using h1) (by simpa using h2) hr
theorem known_at (ls : Bs) (k : Nat) (h : k < ls.length) (hk : known ls = true) : knownL ls[k] = true := List.all_eq_true.1 hk _ (List.getElem_mem h)
theorem knownL_ascii {l : UInt8} (h : knownL l = true) : l.toNat < 128 := by
  unfold knownL at h
  rw [List.contains_iff_mem] at h
  simp at h
  rcases h with rfl | rfl | rfl | rfl | rfl | rfl | rfl <;> decide
theorem encode_one {l : UInt8} {c : Cell} {b : Bs} (hk : knownL l = true) (h : encCell l c = .ok b) : encode [l] [c] = .ok b := by
  unfold encode
  rw [if_neg (by simp [known, hk])]
  simp [encAll, h, Except.bind, Except.map]
theorem extract_list (s : ByteArray) (k : Nat) (h : k < s.size) : (s.extract k (k + 1)).data.toList = [s[k]] := by
  rw [Lib.extract_data]
  have h2 : k < s.data.toList.length := by rw [Array.length_toList]; exact h
  rw [show k + 1 - k = 1 from by omega, List.drop_eq_getElem_cons h2]
  rfl

end Go.Proofs.YtpekagkhgegefaaDoor
/- Plain laws of Encode, cell by cell (from XLc). -/
set_option linter.unusedVariables false
set_option linter.unusedSimpArgs false
set_option linter.unnecessarySimpa false
namespace Go.Proofs.YtpekagkhgegefaaDoor
open Go.RowKit
attribute [local go_sem] run_store_flt cellV errV

/-- A letter, as the reference has it: how many bytes (0: it is none); whether a text stands behind. -/
def refW (l : UInt8) : Nat × Bool := if knownL l = true then (width l, isText l) else (0, false)
theorem knownL_val (l : UInt8) : knownL l = ((l.toNat : Int) == 98 || (l.toNat : Int) == 104 || (l.toNat : Int) == 119 || (l.toNat : Int) == 113 || (l.toNat : Int) == 102 || (l.toNat : Int) == 116 || (l.toNat : Int) == 114) := by
  have key : ∀ k : UInt8, (l == k) = ((l.toNat : Int) == (k.toNat : Int)) := fun k => by
    rw [Bool.eq_iff_iff, beq_iff_eq, beq_iff_eq, ← UInt8.toNat_inj]; omega
  unfold knownL
  simp only [List.contains_cons, List.contains_nil, key, Bool.or_false, Bool.or_assoc]
  rfl
theorem refW_one (l : UInt8) : (((refW l).1 : Nat) : Int) = if ((l.toNat : Int) == 98 || (l.toNat : Int) == 104 || (l.toNat : Int) == 119 || (l.toNat : Int) == 113 || (l.toNat : Int) == 102 || (l.toNat : Int) == 116 || (l.toNat : Int) == 114) = true then
    (if (l.toNat : Int) = 98 ∨ (l.toNat : Int) = 116 then 1 else if (l.toNat : Int) = 104 ∨ (l.toNat : Int) = 114 then 2 else if (l.toNat : Int) = 119 then 4 else 8) else 0 := by
  unfold refW
  rw [← knownL_val, ← width_val]
  split <;> rfl
theorem refW_two (l : UInt8) : (refW l).2 = (((l.toNat : Int) == 98 || (l.toNat : Int) == 104 || (l.toNat : Int) == 119 || (l.toNat : Int) == 113 || (l.toNat : Int) == 102 || (l.toNat : Int) == 116 || (l.toNat : Int) == 114) && ((l.toNat : Int) == 116 || (l.toNat : Int) == 114)) := by
  unfold refW
  rw [← knownL_val, ← text_val]
  cases knownL l <;> simp
set_option maxHeartbeats 400000 in
theorem letter_any (l : UInt8) (w : World) : Calls Tryd.prog 69 #[bv l] w fun e w' =>
   e = .returned (.tuple #[.int .i64 ((refW l).1 : Nat), .bool (refW l).2]) ∧ w = w' := by
  have h1 := Lib.hid (refW_one l)
  have h2 := Lib.hid (refW_two l)
  unfold bv
  go_enter Tryd.func69, Tryd.ntmps69
  go_wp2
  all_goals
    go_ret2
    refine ⟨ret_congr ?_, rfl⟩
    rw [h1.out, h2.out]
    simp_all
theorem letter_yes (l : UInt8) (w : World) (h : knownL l = true) : Calls Tryd.prog 69 #[bv l] w fun e w' => e = .returned (.tuple #[.int .i64 (width l : Nat), .bool (isText l)]) ∧ w = w' := by
  have := letter_any l w
  rw [show refW l = (width l, isText l) from by unfold refW; rw [if_pos h]] at this
  exact this
theorem letter_no (l : UInt8) (w : World) (h : knownL l = false) : Calls Tryd.prog 69 #[bv l] w fun e w' => e = .returned (.tuple #[.int .i64 0, .bool false]) ∧ w = w' := by
  have := letter_any l w
  rw [show refW l = (0, false) from by unfold refW; rw [if_neg (by simp [h])]] at this
  exact this
set_option maxHeartbeats 400000 in
theorem rknown_any (s : ByteArray) (w : World) (hs : s.size ≤ maxLen) : Calls Tryd.prog 66 #[.string s] w fun e w' =>
    e = .returned (.bool (known s.data.toList)) ∧ w = w' := by
  unfold maxLen at hs
  go_enter Tryd.func66, Tryd.ntmps66
  go_wp2_with fail
  go_loop [3] (fun i => ∃ k : Nat, k ≤ s.size ∧ i = .int .i64 k ∧ known (s.data.toList.take k) = true) (fun i => s.size - (intOf i).toNat)
  case atStart => exact ⟨0, Nat.zero_le _, rfl, by simp [known]⟩
  case round =>
    obtain ⟨k, hk, rfl, hkn⟩ := hrel
    have HK := Lib.hid hkn
    clear hkn
    by_cases hlt : k < s.size
    · have hll : k < s.data.toList.length := by simpa using hlt
      have i0 : (0 : Int) ≤ (k : Int) := by omega
      have i1 : (k : Int) < (s.size : Int) := by omega
      have i2 : IntKind.i64.wrap ((k : Int) + 1) = (k : Int) + 1 := IntWalk.i64_in _ (by omega)
      cases hkl : knownL s[k] with
      | false =>
        have HKL := Lib.hid hkl
        clear hkl
        go_wp2_with (go_at_call 69; refine (letter_no s[k] w HKL.out).mono ?_; rintro e w' ⟨rfl, rfl⟩)
        go_ret
        refine ⟨ret_congr ?_, rfl⟩
        rw [known_false s.data.toList k hll HKL.out]
        rfl
      | true =>
        have HKL := Lib.hid hkl
        have hw := width_le s[k]
        have hw0 : ¬ ((width s[k] : Int) = 0) := by omega
        clear hkl
        go_wp2_with (go_at_call 69; refine (letter_yes s[k] w HKL.out).mono ?_; rintro e w' ⟨rfl, rfl⟩)
        have hk2 : known (s.data.toList.take (k + 1)) = true := by
          rw [known_take _ k hll, HK.out, show s.data.toList[k]'hll = s[k] from rfl, HKL.out]
          rfl
        go_round
        case rel => exact ⟨k + 1, by omega, by go_num, hk2⟩
        case measure => simp [intOf]; omega
    · go_wp2
      go_ret
      refine ⟨ret_congr ?_, rfl⟩
      have := HK.out
      rw [List.take_of_length_le (by simp; omega)] at this
      rw [this]
      rfl
def refFits (n : Int) (bytes : Nat) : Bool := decide (0 ≤ n) && (n.toNat / 256 ^ bytes == 0 || bytes == 8)
set_option maxHeartbeats 400000 in
theorem fits_any (n : Int) (bytes : Nat) (w : World) (hb : bytes ≤ 8) (hn : n ≤ 9223372036854775807) : Calls Tryd.prog 70 #[.int .i64 n, .int .i64 bytes] w fun e w' =>
    e = .returned (.bool (refFits n bytes)) ∧ w = w' := by
  by_cases h0 : 0 ≤ n
  · obtain ⟨N, rfl⟩ : ∃ N : Nat, n = (N : Int) := ⟨_, (Int.toNat_of_nonneg h0).symm⟩
    have hneg : ¬ ((N : Int) < 0) := by omega
    go_enter Tryd.func70, Tryd.ntmps70
    go_wp2_with fail
    go_loop [0, 5] (fun m i => ∃ j x : Nat, j ≤ bytes ∧ i = .int .i64 j ∧ m = .int .i64 (x : Int) ∧ x = N / 256 ^ j) (fun _ i => bytes - (intOf i).toNat)
    case atStart => exact ⟨0, N, Nat.zero_le _, rfl, rfl, by simp⟩
    case round =>
      obtain ⟨j, x, hj, rfl, rfl, hx⟩ := hrel
      have hle : x ≤ N := by rw [hx]; exact Nat.div_le_self _ _
      have HX := Lib.hid hx
      clear hx
      by_cases hlt : j < bytes
      · have i1 : (j : Int) < (bytes : Int) := by omega
        have i2 : IntKind.i64.wrap ((j : Int) + 1) = (j : Int) + 1 := IntWalk.i64_in _ (by omega)
        have hq : ((x : Int)).tdiv 256 = ((x / 256 : Nat) : Int) := rfl
        have i3 : IntKind.i64.wrap ((x / 256 : Nat) : Int) = ((x / 256 : Nat) : Int) := IntWalk.i64_in _ (by omega)
        have hy : x / 256 = N / 256 ^ (j + 1) := by rw [HX.out, Nat.pow_succ, ← Nat.div_div_eq_div_mul]
        have HY := Lib.hid hy
        clear hy
        generalize x / 256 = y at *
        go_wp2_with fail
        go_round
        case rel => exact ⟨j + 1, y, by omega, by go_num, rfl, HY.out⟩
        case measure => simp [intOf]; omega
      · have hjb : j = bytes := by omega
        have HJ := Lib.hid hjb
        clear hjb
        go_wp2
        all_goals
          go_ret
          refine ⟨ret_congr ?_, rfl⟩
          have h1 := HX.out
          have h2 := HJ.out
          subst h2
          simp [refFits, ← h1]
          first | done | exact .inl (by assumption) | (rw [Bool.eq_iff_iff]; simp; omega)
  · have hneg : n < 0 := by omega
    go_enter Tryd.func70, Tryd.ntmps70
    go_wp2
    go_ret
    refine ⟨ret_congr ?_, rfl⟩
    simp [refFits]
    intro h
    omega
set_option maxHeartbeats 400000 in
theorem number_any (u bytes : Nat) (w : World) (hb : bytes ≤ 8) (hu : u < 18446744073709551616) : Calls Tryd.prog 57 #[.int .u64 u, .int .i64 bytes] w fun e w' =>
    Below w.heap.size w w' ∧ ∃ v', e = .returned v' ∧ w'.ownsRow w.heap.size 5 1 v' bytes (bvs (be u bytes)) := by
  obtain ⟨i0, hi, hz0, hz1, hz2⟩ := info_parts infoU8
  go_enter Tryd.func57, Tryd.ntmps57
  go_wp2_with (at_make; refine wpList_make_full _ rfl _ _ 23 rfl w.heap.size 5 i0 (.int .u8 0) 1 Tryd.underlying23 hi hz0 hz1 _ _ _ _ bytes rfl rfl rfl rfl (by rw [hz2]; omega) (by unfold maxLen; omega) (Nat.le_refl _) ?_; intro w1 hown hg)
  have hb1 : Below w.heap.size w w1 := ⟨hg.os, hg.tape, hg.output, hg.size, fun k hk => hg.block k hk (by simp)⟩
  have h0 : (madeCells (Value.int .u8 0).cells (bytes * 1)).toList = bvs (List.replicate (bytes - 0) 0 ++ be u 0) := by
    rw [show be u 0 = [] from rfl, List.append_nil, Nat.sub_zero]
    apply List.ext_getElem
    · simp [madeCells, bvs]
    · intro i h1 h2
      simp [madeCells, bvs, bv, Value.cells, Nat.mod_one]
  rw [h0] at hown
  have HO := Lib.hid hown
  have HB := Lib.hid hb1
  clear hown hb1 h0 hg
  generalize hgq : w.heap.size = g at *
  have HGQ := Lib.hid hgq
  clear hgq
  go_loopw [0, 6] (fun a i wr => ∃ j x t : Nat, j + t = bytes ∧ a = .int .u64 (x : Int) ∧ i = .int .i64 (t : Int) ∧ x = u / 256 ^ j ∧ wr.ownsRow g 5 1 (.slice (some ⟨g, 0, none⟩) bytes bytes) bytes (bvs (List.replicate t 0 ++ be u j)) ∧ Below g w wr) (fun _ i _ => (intOf i).toNat)
  case atStart => exact ⟨0, u, bytes, by omega, rfl, rfl, by simp, HO.out, HB.out⟩
  case round =>
    obtain ⟨j, x, t, hjt, rfl, rfl, hx, hown, hbel⟩ := hrel
    have hle : x ≤ u := by rw [hx]; exact Nat.div_le_self _ _
    have HX := Lib.hid hx
    clear hx
    by_cases hlt : 0 < t
    · obtain ⟨r, rfl⟩ : ∃ r, t = r + 1 := ⟨t - 1, by omega⟩
      have hc := hown.cellAt r (by omega)
      have hf := hown.frozenAt r
      have hst := hown.stored r (.int .u8 ((x % 256 : Nat) : Int))
      have hadd : (⟨g, 0, none⟩ : Addr).add r = ⟨g, r, none⟩ := by unfold Addr.add; split <;> simp_all
      obtain ⟨old, hold⟩ : ∃ v, wr.cell? ⟨g, r, none⟩ = some v := ⟨_, hc.trans (List.getElem?_eq_getElem (by simp [bvs]; omega))⟩
      have q1 : (x : Int).tmod 256 = ((x % 256 : Nat) : Int) := rfl
      have q2 : (x : Int).tdiv 256 = ((x / 256 : Nat) : Int) := rfl
      have w1 : IntKind.u64.wrap ((x % 256 : Nat) : Int) = ((x % 256 : Nat) : Int) := u64_nat _ (by omega)
      have w2 : IntKind.u64.wrap ((x / 256 : Nat) : Int) = ((x / 256 : Nat) : Int) := u64_nat _ (by omega)
      have w3 : IntKind.u8.wrap ((x % 256 : Nat) : Int) = ((x % 256 : Nat) : Int) := IntWalk.u8_in _ (by omega)
      have w4 : IntKind.i64.wrap (((r + 1 : Nat) : Int) - 1) = (r : Int) := by rw [show ((r + 1 : Nat) : Int) - 1 = (r : Int) from by omega]; exact IntWalk.i64_in _ (by omega)
      have k0 : (0 : Int) < ((r + 1 : Nat) : Int) := by omega
      have k1 : (r : Int) < (bytes : Int) := by omega
      have k2 : (0 : Int) ≤ (r : Int) := by omega
      have HS := Lib.hid hst
      have HBl := Lib.hid hbel
      clear hst hbel hc hown
      generalize hT : ((r + 1 : Nat) : Int) = T at *
      have HT := Lib.hid hT
      clear hT
      generalize hy : x % 256 = y at *
      generalize hz : x / 256 = z at *
      have HY := Lib.hid hy
      have HZ := Lib.hid hz
      clear hy hz
      go_wp2_with fail
      go_roundw
      case rel =>
        refine ⟨j + 1, z, r, by omega, rfl, rfl, ?_, ?_, ?_⟩
        · rw [← HZ.out, HX.out, Nat.pow_succ, ← Nat.div_div_eq_div_mul]
        · have e : (bvs (List.replicate (r + 1) 0 ++ be u j)).set r (.int .u8 (y : Int)) = bvs (List.replicate r 0 ++ be u (j + 1)) := by
            have e1 : List.replicate (r + 1) (0 : UInt8) = List.replicate r 0 ++ [0] := by rw [List.replicate_succ']
            have e2 : ((UInt8.ofNat (u / 256 ^ j)).toNat : Int) = (y : Int) := by rw [← HY.out, HX.out]; simp
            rw [e1]
            simp only [bvs, List.map_append, be, List.map_cons, bv, e2]
            rw [List.append_assoc, List.set_append_right _ _ (by simp)]
            simp
          rw [← e]
          exact HS.out.1
        · have h2 := HS.out.2
          have h3 := HBl.out
          exact ⟨h2.os.trans h3.os, h2.tape.trans h3.tape, h2.output.trans h3.output, Nat.le_trans h3.size h2.size, fun k hk => (h2.block k (Nat.lt_of_lt_of_le hk (HGQ.out ▸ h3.size)) (fun e => by cases e; omega)).trans (h3.block k hk)⟩
      case measure => have := HT.out; simp [intOf]; omega
    · have hz0 : t = 0 := by omega
      subst hz0
      have hj : j = bytes := by omega
      have HJ := Lib.hid hj
      have HO2 := Lib.hid hown
      have HB2 := Lib.hid hbel
      clear hj hown hbel
      go_wp2
      go_ret
      rw [HGQ.out]
      refine ⟨HB2.out, _, rfl, ?_⟩
      have := HO2.out
      rw [HJ.out] at this
      simpa using this
/-- A cell of the reference, its values. -/
def rcellVs (c : Cell) : List Value := [.int .i64 c.n, .int .u64 c.f, .string c.s]
end Go.Proofs.YtpekagkhgegefaaDoor
