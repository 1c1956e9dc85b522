/- Walks of the references of layers 1 and 10: Number; secret, name, number. -/
import Derived.Test.YtnnokbipcenbgaaDoorPk
import Derived.OwnWalk
set_option linter.unusedVariables false
set_option linter.unusedSimpArgs false
set_option linter.unnecessarySimpa false
namespace Go.Proofs.YtnnokbipcenbgaaDoor
open Go.RowKit

set_option maxRecDepth 8000 in
set_option maxHeartbeats 400000 in
theorem rnumber_any (u bytes : Nat) (w : World) (hb : bytes ≤ 8) (hu : u < 18446744073709551616) : Calls Tryd.prog 39 #[.int .u64 u, .int .i64 bytes] w fun e w' =>
    Below w.heap.size w w' ∧ ∃ v', e = .returned v' ∧ w'.ownsRow w.heap.size 5 1 v' bytes (bvs (be u bytes)) := by
  obtain ⟨i0, hi, hz0, hz1, hz2⟩ := info_parts infoU8
  go_enter Tryd.func39, Tryd.ntmps39
  go_wp2_with (at_make; refine wpList_make_full _ rfl _ _ 22 rfl w.heap.size 5 i0 (.int .u8 0) 1 Tryd.underlying22 hi hz0 hz1 _ _ _ _ bytes rfl rfl rfl rfl (by rw [hz2]; omega) (by unfold maxLen; omega) (Nat.le_refl _) ?_; intro w1 hown hg)
  have hb1 : Below w.heap.size w w1 := ⟨hg.os, hg.tape, hg.output, hg.size, fun k hk => hg.block k hk (by simp)⟩
  have h0 : (madeCells (Value.int .u8 0).cells (bytes * 1)).toList = bvs (List.replicate (bytes - 0) 0 ++ be u 0) := by
    rw [show be u 0 = [] from rfl, List.append_nil, Nat.sub_zero]
    apply List.ext_getElem
    · simp [madeCells, bvs]
    · intro i h1 h2
      simp [madeCells, bvs, bv, Value.cells, Nat.mod_one]
  rw [h0] at hown
  have HO := Lib.hid hown
  have HB := Lib.hid hb1
  clear hown hb1 h0 hg
  generalize hgq : w.heap.size = g at *
  have HGQ := Lib.hid hgq
  clear hgq
  go_loopw [0, 6] (fun a i wr => ∃ j x t : Nat, j + t = bytes ∧ a = .int .u64 (x : Int) ∧ i = .int .i64 (t : Int) ∧ x = u / 256 ^ j ∧ wr.ownsRow g 5 1 (.slice (some ⟨g, 0, none⟩) bytes bytes) bytes (bvs (List.replicate t 0 ++ be u j)) ∧ Below g w wr) (fun _ i _ => (intOf i).toNat)
  case atStart => exact ⟨0, u, bytes, by omega, rfl, rfl, by simp, HO.out, HB.out⟩
  case round =>
    obtain ⟨j, x, t, hjt, rfl, rfl, hx, hown, hbel⟩ := hrel
    have hle : x ≤ u := by rw [hx]; exact Nat.div_le_self _ _
    have HX := Lib.hid hx
    clear hx
    by_cases hlt : 0 < t
    · obtain ⟨r, rfl⟩ : ∃ r, t = r + 1 := ⟨t - 1, by omega⟩
      have hc := hown.cellAt r (by omega)
      have hf := hown.frozenAt r
      have hst := hown.stored r (.int .u8 ((x % 256 : Nat) : Int))
      have hadd : (⟨g, 0, none⟩ : Addr).add r = ⟨g, r, none⟩ := by unfold Addr.add; split <;> simp_all
      obtain ⟨old, hold⟩ : ∃ v, wr.cell? ⟨g, r, none⟩ = some v := ⟨_, hc.trans (List.getElem?_eq_getElem (by simp [bvs]; omega))⟩
      have q1 : (x : Int).tmod 256 = ((x % 256 : Nat) : Int) := rfl
      have q2 : (x : Int).tdiv 256 = ((x / 256 : Nat) : Int) := rfl
      have w1 : IntKind.u64.wrap ((x % 256 : Nat) : Int) = ((x % 256 : Nat) : Int) := u64_nat _ (by omega)
      have w2 : IntKind.u64.wrap ((x / 256 : Nat) : Int) = ((x / 256 : Nat) : Int) := u64_nat _ (by omega)
      have w3 : IntKind.u8.wrap ((x % 256 : Nat) : Int) = ((x % 256 : Nat) : Int) := IntWalk.u8_in _ (by omega)
      have w4 : IntKind.i64.wrap (((r + 1 : Nat) : Int) - 1) = (r : Int) := by rw [show ((r + 1 : Nat) : Int) - 1 = (r : Int) from by omega]; exact IntWalk.i64_in _ (by omega)
      have k0 : (0 : Int) < ((r + 1 : Nat) : Int) := by omega
      have k1 : (r : Int) < (bytes : Int) := by omega
      have k2 : (0 : Int) ≤ (r : Int) := by omega
      have HS := Lib.hid hst
      have HBl := Lib.hid hbel
      clear hst hbel hc hown
      generalize hT : ((r + 1 : Nat) : Int) = T at *
      have HT := Lib.hid hT
      clear hT
      generalize hy : x % 256 = y at *
      generalize hz : x / 256 = z at *
      have HY := Lib.hid hy
      have HZ := Lib.hid hz
      clear hy hz
      go_wp2_with fail
      go_roundw
      case rel =>
        refine ⟨j + 1, z, r, by omega, rfl, rfl, ?_, ?_, ?_⟩
        · rw [← HZ.out, HX.out, Nat.pow_succ, ← Nat.div_div_eq_div_mul]
        · have e : (bvs (List.replicate (r + 1) 0 ++ be u j)).set r (.int .u8 (y : Int)) = bvs (List.replicate r 0 ++ be u (j + 1)) := by
            have e1 : List.replicate (r + 1) (0 : UInt8) = List.replicate r 0 ++ [0] := by rw [List.replicate_succ']
            have e2 : ((UInt8.ofNat (u / 256 ^ j)).toNat : Int) = (y : Int) := by rw [← HY.out, HX.out]; simp
            rw [e1]
            simp only [bvs, List.map_append, be, List.map_cons, bv, e2]
            rw [List.append_assoc, List.set_append_right _ _ (by simp)]
            simp
          rw [← e]
          exact HS.out.1
        · have h2 := HS.out.2
          have h3 := HBl.out
          exact ⟨h2.os.trans h3.os, h2.tape.trans h3.tape, h2.output.trans h3.output, Nat.le_trans h3.size h2.size, fun k hk => (h2.block k (Nat.lt_of_lt_of_le hk (HGQ.out ▸ h3.size)) (fun e => by cases e; omega)).trans (h3.block k hk)⟩
      case measure => have := HT.out; simp [intOf]; omega
    · have hz0 : t = 0 := by omega
      subst hz0
      have hj : j = bytes := by omega
      have HJ := Lib.hid hj
      have HO2 := Lib.hid hown
      have HB2 := Lib.hid hbel
      clear hj hown hbel
      go_wp2
      go_ret
      rw [HGQ.out]
      refine ⟨HB2.out, _, rfl, ?_⟩
      have := HO2.out
      rw [HJ.out] at this
      simpa using this
def rsecretP (w : World) (b : Bool) (e : Ending) (w' : World) : Prop := e = .returned (.bool b) ∧ w' = w
set_option maxRecDepth 8000 in
theorem rsecret_any (w : World) (A : Option Addr) (c : Nat) (b : Bs) (hb : b.length ≤ 9223372036854775807) : Calls Tryd.prog 36 #[.slice A b.length c] w (rsecretP w (secretOk b)) := by
  by_cases h1 : 1 ≤ b.length
  · have k1 : (1 : Int) ≤ (b.length : Int) := by omega
    by_cases h2 : b.length ≤ 64
    · have k2 : (b.length : Int) ≤ 64 := by omega
      have hs : secretOk b = true := by unfold secretOk; exact decide_eq_true ⟨h1, h2⟩
      rw [hs]
      clear hs
      go_enter Tryd.func36, Tryd.ntmps36
      go_wp2_with fail
      go_ret
      exact ⟨rfl, rfl⟩
    · have k2 : ¬ (b.length : Int) ≤ 64 := by omega
      have hs : secretOk b = false := by unfold secretOk; exact decide_eq_false fun h => h2 h.2
      rw [hs]
      clear hs
      go_enter Tryd.func36, Tryd.ntmps36
      go_wp2_with fail
      go_ret
      exact ⟨rfl, rfl⟩
  · have k1 : ¬ (1 : Int) ≤ (b.length : Int) := by omega
    have hs : secretOk b = false := by unfold secretOk; exact decide_eq_false fun h => h1 h.1
    rw [hs]
    clear hs
    go_enter Tryd.func36, Tryd.ntmps36
    go_wp2_with fail
    go_ret
    exact ⟨rfl, rfl⟩
def rnameP (w : World) (b : Bool) (e : Ending) (w' : World) : Prop := e = .returned (.bool b) ∧ w' = w
set_option maxRecDepth 8000 in
theorem rname_any (w : World) (s : ByteArray) (hl : s.size = s.data.toList.length) : Calls Tryd.prog 40 #[.string s] w (rnameP w (whoOk s.data.toList)) := by
  by_cases h1 : 1 ≤ s.data.toList.length
  · have k1 : (1 : Int) ≤ (s.size : Int) := by omega
    by_cases h2 : s.data.toList.length ≤ 16
    · have k2 : (s.size : Int) ≤ 16 := by omega
      have hs : whoOk s.data.toList = true := by unfold whoOk; exact decide_eq_true ⟨h1, h2⟩
      rw [hs]
      clear hs hl
      go_enter Tryd.func40, Tryd.ntmps40
      go_wp2_with fail
      go_ret
      exact ⟨rfl, rfl⟩
    · have k2 : ¬ (s.size : Int) ≤ 16 := by omega
      have hs : whoOk s.data.toList = false := by unfold whoOk; exact decide_eq_false fun h => h2 h.2
      rw [hs]
      clear hs hl
      go_enter Tryd.func40, Tryd.ntmps40
      go_wp2_with fail
      go_ret
      exact ⟨rfl, rfl⟩
  · have k1 : ¬ (1 : Int) ≤ (s.size : Int) := by omega
    have hs : whoOk s.data.toList = false := by unfold whoOk; exact decide_eq_false fun h => h1 h.1
    rw [hs]
    clear hs hl
    go_enter Tryd.func40, Tryd.ntmps40
    go_wp2_with fail
    go_ret
    exact ⟨rfl, rfl⟩
def rnumP (w : World) (b : Bool) (e : Ending) (w' : World) : Prop := e = .returned (.bool b) ∧ w' = w
set_option maxRecDepth 8000 in
theorem rnum_any (w : World) (n : Int) : Calls Tryd.prog 37 #[.int .i64 n] w (rnumP w (numOk n)) := by
  by_cases h1 : 0 ≤ n
  · have k1 : 0 ≤ n := by omega
    by_cases h2 : n ≤ 1099511627776
    · have k2 : n ≤ 1099511627776 := by omega
      have hs : numOk n = true := by unfold numOk; exact decide_eq_true ⟨h1, h2⟩
      rw [hs]
      clear hs
      go_enter Tryd.func37, Tryd.ntmps37
      go_wp2_with fail
      go_ret
      exact ⟨rfl, rfl⟩
    · have k2 : ¬ n ≤ 1099511627776 := by omega
      have hs : numOk n = false := by unfold numOk; exact decide_eq_false fun h => h2 h.2
      rw [hs]
      clear hs
      go_enter Tryd.func37, Tryd.ntmps37
      go_wp2_with fail
      go_ret
      exact ⟨rfl, rfl⟩
  · have k1 : ¬ 0 ≤ n := by omega
    have hs : numOk n = false := by unfold numOk; exact decide_eq_false fun h => h1 h.1
    rw [hs]
    clear hs
    go_enter Tryd.func37, Tryd.ntmps37
    go_wp2_with fail
    go_ret
    exact ⟨rfl, rfl⟩
end Go.Proofs.YtnnokbipcenbgaaDoor
