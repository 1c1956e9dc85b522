/- Walks of the reference of layer 1: Encode. -/
import Derived.Test.YtpekagkhgegefaaDoorMb
import Derived.Test.YtpekagkhgegefaaDoorMi
set_option linter.unusedVariables false
set_option linter.unusedSimpArgs false
set_option linter.unnecessarySimpa false
namespace Go.Proofs.YtpekagkhgegefaaDoor
open Go.RowKit
attribute [local go_sem] run_store_flt cellV errV

/-- A cell of the reference, as it lies in memory. -/
theorem rcells_at {ok : Nat → Prop} {w : World} {A : Option Addr} {cells : List Cell} (h : RdC ok w A (cells.flatMap rcellVs)) (k : Nat) (hk : k < cells.length) :
    ∃ ad, A = some ad ∧ ok ad.block ∧ w.cell? (ad.add (k * 3)) = some (.int .i64 cells[k].n) ∧ w.cell? ⟨(ad.add (k * 3)).block, (ad.add (k * 3)).off + 1, none⟩ = some (.int .u64 cells[k].f) ∧ w.cell? ⟨(ad.add (k * 3)).block, (ad.add (k * 3)).off + 2, none⟩ = some (.string cells[k].s) := by
  have key : ∀ (cells : List Cell) (k : Nat) (hk : k < cells.length) (j : Nat), j < 3 → (cells.flatMap rcellVs)[k * 3 + j]? = (rcellVs cells[k])[j]? := by
    intro cells
    induction cells with
    | nil => intro k hk; simp at hk
    | cons c cs ih =>
      intro k hk j hj
      have hl : (rcellVs c).length = 3 := rfl
      cases k with
      | zero => rw [List.flatMap_cons, List.getElem?_append_left (by omega)]; simp
      | succ k =>
        rw [List.flatMap_cons, List.getElem?_append_right (by rw [hl]; omega), hl, show (k + 1) * 3 + j - 3 = k * 3 + j from by omega, ih k (by simpa using hk) j hj]
        simp
  obtain ⟨ad, e, hb, hc⟩ := h (by
    intro e
    have := key cells k hk 0 (by omega)
    rw [e] at this
    simp [rcellVs] at this)
  refine ⟨ad, e, hb, ?_, ?_, ?_⟩
  · exact hc (k * 3) _ (by have := key cells k hk 0 (by omega); simpa [rcellVs] using this)
  · rw [← add_field _ _ _ (by omega)]; exact hc (k * 3 + 1) _ (by have := key cells k hk 1 (by omega); simpa [rcellVs] using this)
  · rw [← add_field _ _ _ (by omega)]; exact hc (k * 3 + 2) _ (by have := key cells k hk 2 (by omega); simpa [rcellVs] using this)
/-- What the reference's Encode comes to. -/
def RefPost (w : World) (r : Except Er Bs) (e : Ending) (w' : World) : Prop :=
  Below w.heap.size w w' ∧ match r with
  | .ok bs => ∃ v', e = .returned (.tuple #[v', .int .i64 0]) ∧ w'.ownsRow w.heap.size 5 1 v' bs.length (bvs bs)
  | .error er => e = .returned (.tuple #[.slice none 0 0, .int .i64 ((erIx er + 1 : Nat) : Int)])
def NumPost (W : World) (bs : Bs) (e : Ending) (w' : World) : Prop := Below W.heap.size W w' ∧ ∃ v', e = .returned v' ∧ w'.ownsRow W.heap.size 5 1 v' bs.length (bvs bs)
theorem number_8 (u : Nat) (hu : u < 18446744073709551616) (w : World) : Calls Tryd.prog 57 #[.int .u64 u, .int .i64 8] w (NumPost w (be u 8)) := by
  have := number_any u 8 w (by omega) hu
  unfold NumPost
  rw [be_length]
  exact this
theorem number_w (u k : Nat) (hk : k ≤ 8) (hu : u < 18446744073709551616) (w : World) : Calls Tryd.prog 57 #[.int .u64 u, .int .i64 k] w (NumPost w (be u k)) := by
  have := number_any u k w hk hu
  unfold NumPost
  rw [be_length]
  exact this
theorem letter_f (w : World) : Calls Tryd.prog 69 #[.int .u8 102] w fun e w' => e = .returned (.tuple #[.int .i64 8, .bool false]) ∧ w = w' := by
  have := letter_yes 102 w (by decide)
  exact this
theorem letter_v (l : UInt8) (h : knownL l = true) (x : Bool) (hx : isText l = x) (w : World) : Calls Tryd.prog 69 #[.int .u8 l.toNat] w fun e w' => e = .returned (.tuple #[.int .i64 (width l : Nat), .bool x]) ∧ w = w' := by
  have := letter_yes l w h
  rw [hx] at this
  exact this
theorem fits_is (n : Int) (l : UInt8) (h : n ≤ 9223372036854775807) : refFits n (width l) = decide (¬ (n < 0 ∨ n > ((256 ^ width l - 1 : Nat) : Int))) := by
  have hp : 0 < 256 ^ width l := Nat.pow_pos (by omega)
  unfold refFits
  rw [Bool.eq_iff_iff]
  simp only [Bool.and_eq_true, Bool.or_eq_true, decide_eq_true_eq, beq_iff_eq, not_or, Nat.div_eq_zero_iff]
  have h8 : width l = 8 → (256 ^ width l : Nat) = 18446744073709551616 := fun e => by rw [e]
  omega
set_option maxRecDepth 8000 in
set_option maxHeartbeats 4000000 in
theorem rencode_loop (w : World) (s : ByteArray) (A : Option Addr) (cap : Nat) (cells : List Cell)
    (hR : RdC (· < w.heap.size) w A (cells.flatMap rcellVs)) (hk : known s.data.toList = true) (hn : cells.length = s.size) (hs : s.size ≤ maxLen)
    (hcost : cost cells ≤ 140737488355328) (hnum : ∀ c ∈ cells, c.f < 18446744073709551616 ∧ c.n ≤ 9223372036854775807) :
    Calls Tryd.prog 56 #[.string s, .slice A s.size cap] w (RefPost w (encAll s.data.toList cells)) := by
  obtain ⟨i0, hi, hz0, hz1, hz2⟩ := info_parts infoU8
  have hs' := hs
  unfold maxLen at hs'
  have HN := Lib.hid hn
  have HM := Lib.hid hnum
  have HKn := Lib.hid hk
  have hll : s.data.toList.length = s.size := Array.length_toList
  have HL := Lib.hid hll
  clear hn hnum hll hk
  go_enter Tryd.func56, Tryd.ntmps56
  go_wp2_with (first
    | (go_at_call 66; refine (rknown_any s _ hs).mono ?_; rintro e w' ⟨rfl, rfl⟩; rw [HKn.out]))
  have hz := World.ownsRow_lit (base := w.heap.size) (e := 5) (size := 1) w #[] 0 (Nat.le_refl _) (by simp [maxLen]) (by simp)
  have HZ := Lib.hid hz
  have hA : Below w.heap.size w (w.alloc (.cells #[] 5)) := (Below.refl _ _).alloc (Nat.le_refl _) _
  have HAl := Lib.hid hA
  clear hz hA
  generalize w.alloc (.cells #[] 5) = w0 at *
  go_loopw [6, 24] (fun b i wr => ∃ (k : Nat) (acc : Bs), k ≤ s.size ∧ i = .int .i64 k ∧ wr.ownsRow w.heap.size 5 1 b acc.length (bvs acc) ∧ Below w.heap.size w wr ∧
      encAll (s.data.toList.take k) (cells.take k) = .ok acc) (fun _ i _ => s.size - (intOf i).toNat)
  case atStart => exact ⟨0, [], Nat.zero_le _, rfl, by simpa [bvs] using HZ.out, HAl.out, by simp [encAll]⟩
  case round =>
    obtain ⟨k, acc, hk1, rfl, hown, hbel, hacc⟩ := hrel
    have HA := Lib.hid hacc
    clear hacc
    by_cases hlt : k < s.size
    · have hkc : k < cells.length := by rw [HN.out]; exact hlt
      have hkl : k < s.data.toList.length := by rw [HL.out]; exact hlt
      obtain ⟨ad, rfl, hadb, h0, h1, h2⟩ := rcells_at hR k hkc
      generalize hck : cells[k] = c at h0 h1 h2
      have HC := Lib.hid hck
      clear hck
      have hz := hbel.size
      have g0 := (hbel.cell (p := ad.add (k * 3)) (by rw [add_block]; exact hadb)).trans h0
      have g1 := (hbel.cell (p := ⟨(ad.add (k * 3)).block, (ad.add (k * 3)).off + 1, none⟩) (by show (ad.add (k * 3)).block < _; rw [add_block]; exact hadb)).trans h1
      have g2 := (hbel.cell (p := ⟨(ad.add (k * 3)).block, (ad.add (k * 3)).off + 2, none⟩) (by show (ad.add (k * 3)).block < _; rw [add_block]; exact hadb)).trans h2
      have hcb : (ad.add (k * 3)).block < wr.heap.size := by rw [add_block]; omega
      clear h0 h1 h2
      have j0 : (0 : Int) ≤ (k : Int) := by omega
      have j1 : (k : Int) < (s.size : Int) := by omega
      have j2 : IntKind.i64.wrap ((k : Int) + 1) = (k : Int) + 1 := IntWalk.i64_in _ (by omega)
      have hcm : c.f < 18446744073709551616 ∧ c.n ≤ 9223372036854775807 := by rw [← HC.out]; exact HM.out _ (List.getElem_mem hkc)
      have hlen1 : acc.length + (8 + c.s.size) ≤ 140737488355328 := by
        have h1 := encAll_len _ _ _ HA.out
        have h2 := cost_take cells k hkc
        rw [HC.out] at h2
        omega
      have hkn : knownL s[k] = true := known_at _ k hkl HKn.out
      have hnb := own_lt hown
      have hbx : Below wr.heap.size wr (wr.alloc (.cells #[.int .i64 c.n, .int .u64 c.f, .string c.s] 112)) := (Below.refl _ _).alloc (Nat.le_refl _) _
      have HBel := Lib.hid hbel
      have HOwn := Lib.hid hown
      have HKL := Lib.hid hkn
      have HBx := Lib.hid hbx
      clear hbel hown hkn hbx
      obtain ⟨cn, cf, cs⟩ := c
      simp only at *
      cases he : encCell s[k] ⟨cn, cf, cs⟩ with
      | ok b =>
        have HEn := Lib.hid he
        unfold encCell at he
        by_cases h1 : s[k] = 102
        · rw [if_pos h1] at he
          have t1 : ((s[k].toNat : Nat) : Int) = 102 := by rw [h1]; rfl
          injection he with he
          have HE := Lib.hid he
          have HNu := Lib.hid (number_8 cf hcm.1)
          clear h1 he
          go_wp2_with (first
            | (go_at_call 69; refine (letter_f _).mono ?_; rintro e w' ⟨rfl, rfl⟩)
            | (go_at_call 57; refine (HNu.out _).mono ?_; rintro e w2 ⟨hb2, v2, rfl, hown2⟩; obtain ⟨A2, c2, rfl, hc2, _⟩ := own_slice hown2; have hbw : Below wr.heap.size wr w2 := HBx.out.trans (hb2.mono HBx.out.size); have hrd := RdC.of_own hown2; clear hb2 hown2; have HBw := Lib.hid hbw; have HRd := Lib.hid hrd; clear hbw hrd)
            | (at_builtin; refine wpList_appS _ w.heap.size _ _ 23 5 i0 (.int .u8 0) 1 1 rfl (by rfl) Tryd.underlying23 hi hz0 hz1 hz2 rfl (by omega) (by omega) _ acc.length (bvs acc) (by rfl) (own_below HOwn.out HBw.out) A2 8 c2 (bvs (be cf 8)) (by rfl) (by simp)
                HRd.out (bvs_one _) (by omega) (by have := HBw.out.size; omega) ?_; intro v3 w3 hown3 hg3))
          have hbel2 : Below w.heap.size w w3 := hg3.below (below_then HBel.out hz HBw.out) (by have := HBw.out.size; omega) (own_base HOwn.out)
          have hacc2 : encAll (s.data.toList.take (k + 1)) (cells.take (k + 1)) = .ok (acc ++ b) := encAll_snoc _ _ k acc b hkl hkc HA.out (by rw [HC.out]; exact HEn.out)
          have HX := Lib.hid hacc2
          have HO3 := Lib.hid hown3
          clear hg3 hacc2 hown3
          go_wp2
          go_roundw
          case rel => exact ⟨k + 1, acc ++ b, by omega, by go_num, by rw [← HE.out]; simpa [bvs] using HO3.out, hbel2, HX.out⟩
          case measure => simp [intOf]; omega
        · rw [if_neg h1] at he
          have n1 : ¬ ((s[k].toNat : Nat) : Int) = 102 := fun h => h1 (UInt8.toNat_inj.1 (show s[k].toNat = 102 by omega))
          have hwl := width_le s[k]
          clear h1
          cases ht : isText s[k] with
          | true =>
            rw [if_pos ht] at he
            split at he
            · cases he
            · rename_i hsz
              injection he with he
              have HE := Lib.hid he
              have HLe := Lib.hid (letter_v s[k] HKL.out true ht)
              have hfi : refFits (cs.size : Int) (width s[k]) = true := by rw [fits_is _ _ (by omega)]; exact decide_eq_true (by simp only at hsz; omega)
              have HFi := Lib.hid (fun W => (show Calls Tryd.prog 70 #[.int .i64 cs.size, .int .i64 (width s[k] : Nat)] W (fun e w' => e = .returned (.bool true) ∧ W = w') from hfi ▸ fits_any (cs.size : Int) (width s[k]) W hwl.2 (by omega)))
              have HNu := Lib.hid (number_w cs.size (width s[k]) hwl.2 (by omega))
              have u1 : IntKind.u64.wrap (cs.size : Int) = (cs.size : Int) := u64_nat _ (by omega)
              clear he ht hfi hsz
              go_wp2_with (first
                | (go_at_call 69; refine (HLe.out _).mono ?_; rintro e w' ⟨rfl, rfl⟩)
                | (go_at_call 70; refine (HFi.out _).mono ?_; rintro e w' ⟨rfl, rfl⟩))
              go_region_held3 (fun w' => w'.cell? ⟨wr.heap.size, 2, none⟩ = some (.string cs))
                (first
                  | go_keep
                  | exact (hb2.cell (by simp)).trans (by simp)
                  | exact hg3.cell ((hb2.cell (by simp)).trans (by simp)) hnb
                  | exact hg4.cell (hg3.cell ((hb2.cell (by simp)).trans (by simp)) hnb) (hg3.ne hnb HLt2.out))
                (first
                  | (go_at_call 57; refine (HNu.out _).mono ?_; rintro e w2 ⟨hb2, v2, rfl, hown2⟩; obtain ⟨A2, c2, rfl, hc2, _⟩ := own_slice hown2; have hbw : Below wr.heap.size wr w2 := HBx.out.drew.trans (hb2.mono HBx.out.size); have hrd := RdC.of_own hown2; have HBw := Lib.hid hbw; have HRd := Lib.hid hrd; have HLt2 := Lib.hid (Nat.lt_of_lt_of_le (show wr.heap.size < (wr.alloc (.cells #[.int .i64 cn, .int .u64 cf, .string cs] 112)).heap.size by simp) hb2.size); clear hown2 hbw hrd)
                  | (refine step_appS _ w.heap.size _ _ 23 5 i0 (.int .u8 0) 1 1 (by rfl) (by rfl) Tryd.underlying23 hi hz0 hz1 hz2 rfl (by omega) (by omega) _ acc.length (bvs acc) (by rfl) (own_below HOwn.out HBw.out) A2 _ c2 (bvs (be cs.size (width s[k]))) (by rfl) (by simp)
                      HRd.out (bvs_one _) (by simp; omega) (by have := HBw.out.size; omega) ?_; intro v3 w3 hown3 hg3; have HO3 := Lib.hid (show w3.ownsRow w.heap.size 5 1 v3 (acc ++ be cs.size (width s[k])).length (bvs (acc ++ be cs.size (width s[k]))) by rw [bvs_append, List.length_append, be_length]; exact hown3); clear hown3)
                  | (refine step_appStr _ w.heap.size _ _ 23 9 5 i0 (by rfl) (by rfl) Tryd.underlying23 Tryd.underlying9 hi hz0 hz1 hz2 v3 (acc ++ be cs.size (width s[k])) cs (by rfl) (by rfl) HO3.out (by simp; omega) (by have := HBw.out.size; have := hg3.by_.size; omega) ?_; intro v4 w4 hown4 hg4))
              have hbel2 : Below w.heap.size w w4 := (hg3.trans hg4).below (below_then HBel.out hz HBw.out) (by have := HBw.out.size; omega) (own_base HOwn.out)
              have hacc2 : encAll (s.data.toList.take (k + 1)) (cells.take (k + 1)) = .ok (acc ++ b) := encAll_snoc _ _ k acc b hkl hkc HA.out (by rw [HC.out]; exact HEn.out)
              have HX := Lib.hid hacc2
              have HO4 := Lib.hid hown4
              clear hg3 hg4 hacc2 hown4 hb2
              go_wp2
              go_roundw
              case rel => exact ⟨k + 1, acc ++ b, by omega, by go_num, by rw [← HE.out, ← List.append_assoc]; exact HO4.out, hbel2, HX.out⟩
              case measure => simp [intOf]; omega
          | false =>
            rw [if_neg (by simp [ht])] at he
            split at he
            · cases he
            · rename_i hsz
              injection he with he
              have HE := Lib.hid he
              have HLe := Lib.hid (letter_v s[k] HKL.out false ht)
              have hfi : refFits cn (width s[k]) = true := by rw [fits_is _ _ (by omega)]; exact decide_eq_true hsz
              have HFi := Lib.hid (fun W => (show Calls Tryd.prog 70 #[.int .i64 cn, .int .i64 (width s[k] : Nat)] W (fun e w' => e = .returned (.bool true) ∧ W = w') from hfi ▸ fits_any cn (width s[k]) W hwl.2 (by omega)))
              obtain ⟨m, hm⟩ : ∃ m : Nat, cn = (m : Int) := ⟨cn.toNat, by simp only at hsz; omega⟩
              have HNu := Lib.hid (number_w m (width s[k]) hwl.2 (by omega))
              have u1 : IntKind.u64.wrap (m : Int) = (m : Int) := u64_nat _ (by omega)
              clear he ht hfi hsz
              subst hm
              go_wp2_with (first
                | (go_at_call 69; refine (HLe.out _).mono ?_; rintro e w' ⟨rfl, rfl⟩)
                | (go_at_call 70; refine (HFi.out _).mono ?_; rintro e w' ⟨rfl, rfl⟩)
                | (go_at_call 57; refine (HNu.out _).mono ?_; rintro e w2 ⟨hb2, v2, rfl, hown2⟩; obtain ⟨A2, c2, rfl, hc2, _⟩ := own_slice hown2; have hbw : Below wr.heap.size wr w2 := HBx.out.trans (hb2.mono HBx.out.size); have hrd := RdC.of_own hown2; clear hb2 hown2; have HBw := Lib.hid hbw; have HRd := Lib.hid hrd; clear hbw hrd)
                | (at_builtin; refine wpList_appS _ w.heap.size _ _ 23 5 i0 (.int .u8 0) 1 1 rfl (by rfl) Tryd.underlying23 hi hz0 hz1 hz2 rfl (by omega) (by omega) _ acc.length (bvs acc) (by rfl) (own_below HOwn.out HBw.out) A2 _ c2 (bvs (be m (width s[k]))) (by rfl) (by simp)
                    HRd.out (bvs_one _) (by simp; omega) (by have := HBw.out.size; omega) ?_; intro v3 w3 hown3 hg3))
              have hbel2 : Below w.heap.size w w3 := hg3.below (below_then HBel.out hz HBw.out) (by have := HBw.out.size; omega) (own_base HOwn.out)
              have hacc2 : encAll (s.data.toList.take (k + 1)) (cells.take (k + 1)) = .ok (acc ++ b) := encAll_snoc _ _ k acc b hkl hkc HA.out (by rw [HC.out]; exact HEn.out)
              have HX := Lib.hid hacc2
              have HO3 := Lib.hid (show w3.ownsRow w.heap.size 5 1 v3 (acc ++ be m (width s[k])).length (bvs (acc ++ be m (width s[k]))) by rw [bvs_append, List.length_append, be_length]; exact hown3)
              clear hg3 hacc2 hown3
              go_wp2
              go_roundw
              case rel => exact ⟨k + 1, acc ++ b, by omega, by go_num, by rw [← HE.out]; exact HO3.out, hbel2, HX.out⟩
              case measure => simp [intOf]; omega
      | error er =>
        have HEn := Lib.hid he
        unfold encCell at he
        by_cases h1 : s[k] = 102
        · rw [if_pos h1] at he
          cases he
        · rw [if_neg h1] at he
          have n1 : ¬ ((s[k].toNat : Nat) : Int) = 102 := fun h => h1 (UInt8.toNat_inj.1 (show s[k].toNat = 102 by omega))
          have hwl := width_le s[k]
          clear h1
          cases ht : isText s[k] with
          | true =>
            rw [if_pos ht] at he
            split at he
            · rename_i hsz
              injection he with hEr
              have HLe := Lib.hid (letter_v s[k] HKL.out true ht)
              have hfi : refFits (cs.size : Int) (width s[k]) = false := by rw [fits_is _ _ (by omega)]; exact decide_eq_false (by simp only at hsz; omega)
              have HFi := Lib.hid (fun W => (show Calls Tryd.prog 70 #[.int .i64 cs.size, .int .i64 (width s[k] : Nat)] W (fun e w' => e = .returned (.bool false) ∧ W = w') from hfi ▸ fits_any (cs.size : Int) (width s[k]) W hwl.2 (by omega)))
              clear ht hfi hsz
              go_wp2_with (first
                | (go_at_call 69; refine (HLe.out _).mono ?_; rintro e w' ⟨rfl, rfl⟩)
                | (go_at_call 70; refine (HFi.out _).mono ?_; rintro e w' ⟨rfl, rfl⟩))
              have hbel2 : Below w.heap.size w (wr.alloc (.cells #[.int .i64 cn, .int .u64 cf, .string cs] 112)) := below_then HBel.out hz HBx.out
              have hfin := encAll_stop _ _ k acc er hkl hkc HA.out (by rw [HC.out]; exact HEn.out)
              subst hEr
              go_ret2
              refine ⟨hbel2, ?_⟩
              rw [hfin]
              rfl
            · cases he
          | false =>
            rw [if_neg (by simp [ht])] at he
            split at he
            · rename_i hsz
              injection he with hEr
              have HLe := Lib.hid (letter_v s[k] HKL.out false ht)
              have hfi : refFits cn (width s[k]) = false := by rw [fits_is _ _ (by omega)]; exact decide_eq_false (fun h => h hsz)
              have HFi := Lib.hid (fun W => (show Calls Tryd.prog 70 #[.int .i64 cn, .int .i64 (width s[k] : Nat)] W (fun e w' => e = .returned (.bool false) ∧ W = w') from hfi ▸ fits_any cn (width s[k]) W hwl.2 (by omega)))
              clear ht hfi hsz
              go_wp2_with (first
                | (go_at_call 69; refine (HLe.out _).mono ?_; rintro e w' ⟨rfl, rfl⟩)
                | (go_at_call 70; refine (HFi.out _).mono ?_; rintro e w' ⟨rfl, rfl⟩))
              have hbel2 : Below w.heap.size w (wr.alloc (.cells #[.int .i64 cn, .int .u64 cf, .string cs] 112)) := below_then HBel.out hz HBx.out
              have hfin := encAll_stop _ _ k acc er hkl hkc HA.out (by rw [HC.out]; exact HEn.out)
              subst hEr
              go_ret2
              refine ⟨hbel2, ?_⟩
              rw [hfin]
              rfl
            · cases he
    · go_wp2
      go_ret2
      refine ⟨hbel, ?_⟩
      have h1 := HA.out
      rw [List.take_of_length_le (by rw [HL.out]; omega), List.take_of_length_le (by rw [HN.out]; omega)] at h1
      rw [h1]
      exact ⟨_, rfl, hown⟩
set_option maxHeartbeats 400000 in
theorem rencode_bad (w : World) (s : ByteArray) (A : Option Addr) (n cap : Nat) (hk : known s.data.toList = false ∨ n ≠ s.size) (hs : s.size ≤ maxLen) (hn : n ≤ maxLen) :
    Calls Tryd.prog 56 #[.string s, .slice A n cap] w (RefPost w (.error .state)) := by
  unfold maxLen at hn
  have hs' := hs
  unfold maxLen at hs'
  cases hkn : known s.data.toList with
  | false =>
    have HK := Lib.hid hkn
    clear hk hkn
    go_enter Tryd.func56, Tryd.ntmps56
    go_wp2_with (first
      | (go_at_call 66; refine (rknown_any s _ hs).mono ?_; rintro e w' ⟨rfl, rfl⟩; rw [HK.out]))
    go_ret2
    exact ⟨Below.refl _ _, rfl⟩
  | true =>
    have hne : ¬ ((s.size : Int) = (n : Int)) := by
      rcases hk with h | h
      · rw [hkn] at h; cases h
      · omega
    have HK := Lib.hid hkn
    clear hk hkn
    go_enter Tryd.func56, Tryd.ntmps56
    go_wp2_with (first
      | (go_at_call 66; refine (rknown_any s _ hs).mono ?_; rintro e w' ⟨rfl, rfl⟩; rw [HK.out]))
    go_ret2
    exact ⟨Below.refl _ _, rfl⟩
/-- The reference's Encode, whatever layout and cells. -/
theorem rencode_any (w : World) (s : ByteArray) (A : Option Addr) (n cap : Nat) (cells : List Cell) (hn : n = cells.length)
    (hR : RdC (· < w.heap.size) w A (cells.flatMap rcellVs)) (hs : s.size ≤ maxLen) (hcl : cells.length ≤ maxLen)
    (hcost : cost cells ≤ 140737488355328) (hnum : ∀ c ∈ cells, c.f < 18446744073709551616 ∧ c.n ≤ 9223372036854775807) :
    Calls Tryd.prog 56 #[.string s, .slice A n cap] w (RefPost w (encode s.data.toList cells)) := by
  subst hn
  unfold encode
  have hll : s.data.toList.length = s.size := Array.length_toList
  by_cases h : known s.data.toList = false ∨ cells.length ≠ s.data.toList.length
  · rw [if_pos h]
    exact rencode_bad w s A _ cap (by rw [hll] at h; exact h) hs hcl
  · rw [if_neg h]
    have h1 : known s.data.toList = true := by
      cases hk : known s.data.toList with
      | true => rfl
      | false => exact absurd (.inl hk) h
    have h2 : cells.length = s.size := Classical.byContradiction fun hx => h (.inr (by rw [hll]; exact hx))
    rw [h2]
    exact rencode_loop w s A cap cells hR h1 h2 hs hcost hnum
end Go.Proofs.YtpekagkhgegefaaDoor
