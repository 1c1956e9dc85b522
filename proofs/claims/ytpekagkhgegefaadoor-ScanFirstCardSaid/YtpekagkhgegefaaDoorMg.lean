/- Walks of the reference of layer 1: Decode. -/
import Derived.Test.YtpekagkhgegefaaDoorMf
set_option linter.unusedVariables false
set_option linter.unusedSimpArgs false
set_option linter.unnecessarySimpa false
namespace Go.Proofs.YtpekagkhgegefaaDoor
open Go.RowKit
attribute [local go_sem] run_store_flt rcellV

theorem infoRCell : (Tryd.prog.info? 112).map (fun i => (i.zero, i.size, i.bytes)) = some (some (.agg #[.int .i64 0, .int .u64 0, .string ⟨#[]⟩]), 3, 32) := by kernel_rfl
def RDecPost (w : World) (r : Except Er (List Cell)) (e : Ending) (w' : World) : Prop :=
  Below w.heap.size w w' ∧ match r with
  | .ok cs => ∃ v', e = .returned (.tuple #[v', .int .i64 0]) ∧ w'.ownsRow w.heap.size 112 3 v' cs.length (cs.flatMap rcellVs)
  | .error er => e = .returned (.tuple #[.slice none 0 0, .int .i64 ((erIx er + 1 : Nat) : Int)])

set_option maxRecDepth 8000 in
set_option maxHeartbeats 400000 in
theorem rdecode_bad (w : World) (s : ByteArray) (A : Option Addr) (n cap : Nat) (hkn : known s.data.toList = false) (hs : s.size ≤ maxLen) :
    Calls Tryd.prog 50 #[.string s, .slice A n cap] w (RDecPost w (.error .state)) := by
  go_enter Tryd.func50, Tryd.ntmps50
  go_wp2_with (first
    | (go_at_call 66; refine (rknown_any s _ hs).mono ?_; rintro e w' ⟨rfl, rfl⟩))
  go_ret2
  exact ⟨Below.refl _ _, rfl⟩

def RDecRel (w : World) (s : ByteArray) (b : Bs) (bv0 out i : Value) (wr : World) : Prop :=
  ∃ (k : Nat) (acc : List Cell) (b' : Bs) (A' : Option Addr) (c' : Nat), k ≤ s.size ∧ i = .int .i64 k ∧ bv0 = .slice A' b'.length c' ∧ b'.length ≤ c' ∧ RdC (· < w.heap.size) w A' (bvs b') ∧
      wr.ownsRow w.heap.size 112 3 out acc.length (acc.flatMap rcellVs) ∧ Below w.heap.size w wr ∧ decAll (s.data.toList.take k) b = .ok (acc, b')
set_option maxRecDepth 8000 in
set_option maxHeartbeats 1000000 in
theorem rdecode_loop (w : World) (s : ByteArray) (A : Option Addr) (cap : Nat) (b : Bs)
    (hR : RdC (· < w.heap.size) w A (bvs b)) (hk : known s.data.toList = true) (hs : s.size ≤ 4000000000000) (hcb : b.length ≤ cap) (hb : b.length ≤ 140737488355328) :
    Calls Tryd.prog 50 #[.string s, .slice A b.length cap] w (RDecPost w ((decAll s.data.toList b).bind fun (cs, r) => if r = [] then .ok cs else .error .tail)) := by
  have hsm : s.size ≤ maxLen := by unfold maxLen; omega
  have hll : s.data.toList.length = s.size := Array.length_toList
  have HL := Lib.hid hll
  clear hll
  obtain ⟨t0, hi, hz0, hz1, hz2⟩ := info_parts infoRCell
  have HR := Lib.hid hR
  clear hR
  go_enter Tryd.func50, Tryd.ntmps50
  go_wp2_with (first
    | (go_at_call 66; refine (rknown_any s _ hsm).mono ?_; rintro e w' ⟨rfl, rfl⟩))
  have hz := World.ownsRow_lit (base := w.heap.size) (e := 112) (size := 3) w #[] 0 (Nat.le_refl _) (by simp [maxLen]) (by simp)
  have HZ := Lib.hid hz
  have hA : Below w.heap.size w (w.alloc (.cells #[] 112)) := (Below.refl _ _).alloc (Nat.le_refl _) _
  have HAl := Lib.hid hA
  clear hz hA
  generalize w.alloc (.cells #[] 112) = w0 at *
  go_loopw [1, 6, 7] (fun bv0 out i wr => RDecRel w s b bv0 out i wr) (fun _ _ i _ => s.size - (intOf i).toNat)
  case atStart => exact ⟨0, [], b, A, cap, Nat.zero_le _, rfl, rfl, hcb, HR.out, by simpa using HZ.out, HAl.out, by simp [decAll]⟩
  case round =>
    obtain ⟨k, acc, b', A', c', hk1, rfl, rfl, hc', hR', hown, hbel, hacc⟩ := hrel
    have HA := Lib.hid hacc
    have hb' := (decAll_len _ _ _ _ hacc).2
    clear hacc
    by_cases hlt : k < s.size
    · have hkl : k < s.data.toList.length := by rw [HL.out]; exact hlt
      have i0 : (0 : Int) ≤ (k : Int) := by omega
      have i1 : (k : Int) < (s.size : Int) := by omega
      have hz := hbel.size
      have hkn0 : knownL s[k] = true := known_at _ k hkl hk
      have i2 : IntKind.i64.wrap ((k : Int) + 1) = (k : Int) + 1 := IntWalk.i64_in _ (by omega)
      have hR2 : RdC (· < wr.heap.size) wr A' (bvs b') := (hR'.below hbel).mono (fun _ h => by omega)
      have HG := Lib.hid (field_any wr A' b'.length c' b' s[k] rfl hkn0 hR2 hc' (by omega))
      have HBel := Lib.hid hbel
      have HOwn := Lib.hid hown
      have HR2 := Lib.hid hR'
      clear hbel hown hR2 hR'
      cases he : decCell s[k] b' with
      | ok q =>
        obtain ⟨c, n⟩ := q
        have hnb := decCell_le he
        rw [he] at HG
        have HEn := Lib.hid he
        clear he
        go_wp2_with (first
          | (go_at_call 67; refine HG.out.mono ?_; rintro e w1 ⟨hb1, rfl⟩)
          | (at_builtin; refine wpList_appN w.heap.size _ _ 67 112 _ _ 3 32 rfl (by rfl) Tryd.underlying67 hi hz0 hz1 hz2 rfl (by omega) (by omega) _ acc.length (acc.flatMap rcellVs) (rcellVs c) (by rfl) (w1.heap.size + 1) (by simp) (by rfl)
              (by exact (own_below HOwn.out hb1).alloc _) rfl (by simp [rcellVs, Value.oneCell']) (by have := (decAll_len _ _ _ _ HA.out).1; rw [List.length_take] at this; omega) (by have := hb1.size; simp; omega) ?_; intro v' w2 hown2 hg2))
        all_goals
          have hbel2 : Below w.heap.size w w2 := hg2.below ((below_then HBel.out hz hb1).alloc (by have := hb1.size; omega) _) (by have := hb1.size; simp; omega) (own_base HOwn.out)
          have hacc2 : decAll (s.data.toList.take (k + 1)) b = .ok (acc ++ [c], b'.drop n) := decAll_snoc _ _ k acc b' c n hkl HA.out HEn.out
          have HX := Lib.hid hacc2
          have HO2 := Lib.hid hown2
          have hdl : b'.length - n = (b'.drop n).length := by rw [List.length_drop]
          have HD := Lib.hid hdl
          clear hg2 hacc2 hown2 hdl
        by_cases hcn : c' = n
        · have hz0 : b'.drop n = [] := List.drop_eq_nil_of_le (by omega)
          have HZ := Lib.hid hz0
          clear hz0
          go_wp2
          go_roundw
          case rel => exact ⟨k + 1, acc ++ [c], b'.drop n, _, _, by omega, by go_num, by rw [HD.out], by rw [HZ.out]; simp, by rw [HZ.out]; exact RdC.nil _ _ _, by simpa using HO2.out, hbel2, HX.out⟩
          case measure => simp [intOf]; omega
        · go_wp2
          go_roundw
          case rel => exact ⟨k + 1, acc ++ [c], b'.drop n, _, _, by omega, by go_num, by rw [HD.out], by rw [List.length_drop]; omega, by simpa [bvs, List.map_drop] using HR2.out.drop n false (by simp), by simpa using HO2.out, hbel2, HX.out⟩
          case measure => simp [intOf]; omega
      | error er =>
        rw [he] at HG
        have HEn := Lib.hid he
        have hcd : ¬ (((erIx er : Nat) : Int) + 1 = 0) := by omega
        clear he
        go_wp2_with (first
          | (go_at_call 67; refine HG.out.mono ?_; rintro e w1 ⟨hb1, rfl⟩))
        go_ret2
        have hz1 := hb1.size
        refine ⟨(below_then HBel.out hz hb1).alloc (by omega) _, ?_⟩
        rw [decAll_stop _ _ k acc b' er hkl HA.out HEn.out]
        all_goals rfl
    · have hkn : k = s.size := by omega
      have h1 := HA.out
      rw [List.take_of_length_le (by rw [HL.out]; omega)] at h1
      have H1 := Lib.hid h1
      clear h1
      by_cases hr : b' = []
      · subst hr
        have hlen0 : ([] : Bs).length = 0 := rfl
        go_wp2
        go_ret2
        rw [H1.out]
        exact ⟨hbel, _, rfl, hown⟩
      · have hpos : 0 < b'.length := List.length_pos_iff.2 hr
        have HR := Lib.hid hr
        clear hr
        go_wp2
        go_ret2
        refine ⟨hbel, ?_⟩
        rw [H1.out]
        simp only [Except.bind]
        rw [if_neg HR.out]
        all_goals rfl

/-- Decode of every layout and bytes. -/
theorem rdecode_any (w : World) (s : ByteArray) (A : Option Addr) (n cap : Nat) (b : Bs) (hn : n = b.length)
    (hR : RdC (· < w.heap.size) w A (bvs b)) (hs : s.size ≤ 4000000000000) (hcb : b.length ≤ cap) (hb : b.length ≤ 140737488355328) :
    Calls Tryd.prog 50 #[.string s, .slice A n cap] w (RDecPost w (decode s.data.toList b)) := by
  subst hn
  unfold decode
  cases hk : known s.data.toList with
  | false => rw [if_pos rfl]; exact rdecode_bad w s A _ cap hk (by unfold maxLen; omega)
  | true => rw [if_neg (by simp)]; exact rdecode_loop w s A cap b hR hk hs hcb hb
end Go.Proofs.YtpekagkhgegefaaDoor
