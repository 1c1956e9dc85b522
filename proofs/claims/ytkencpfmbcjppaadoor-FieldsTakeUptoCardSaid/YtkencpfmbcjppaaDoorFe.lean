/- Walks of package fields, last part: Some. -/
import Derived.Test.YtkencpfmbcjppaaDoorFd
set_option linter.unusedVariables false
set_option linter.unusedSimpArgs false
set_option linter.unnecessarySimpa false
namespace Go.Proofs.YtkencpfmbcjppaaDoor
open Go.RowKit
attribute [local go_sem] run_store_flt cellV errV

theorem someAt_cons (ls b : Bs) (k : Nat) (h : k < ls.length) : someAt (ls.drop k) b = if knownL ls[k] = false then (0, false) else
    match decCell ls[k] b with
    | .error _ => (0, false)
    | .ok (_, n) => ((someAt (ls.drop (k + 1)) (b.drop n)).1 + 1, (someAt (ls.drop (k + 1)) (b.drop n)).2) := by
  rw [List.drop_eq_getElem_cons h]
  rfl
def SomePost (w : World) (r : Nat × Bool) (e : Ending) (w' : World) : Prop := e = .returned (.tuple #[.int .i64 r.1, .bool r.2]) ∧ Below w.heap.size w w'
def SomeRel (w : World) (s : ByteArray) (b : Bs) (bv0 i : Value) (wr : World) : Prop :=
  ∃ (k : Nat) (b' : Bs) (A' : Option Addr) (c' : Nat), k ≤ s.size ∧ i = .int .i64 k ∧ bv0 = .slice A' b'.length c' ∧ b'.length ≤ c' ∧ b'.length ≤ b.length ∧ RdC (· < w.heap.size) w A' (bvs b') ∧
      Below w.heap.size w wr ∧ someAt s.data.toList b = (k + (someAt (s.data.toList.drop k) b').1, (someAt (s.data.toList.drop k) b').2)
theorem extract_one (s : ByteArray) (k : Nat) (h : k < s.size) : known (s.extract k (k + 1)).data.toList = knownL s[k] := by
  have e : (s.extract k (k + 1)).data.toList = [s[k]] := by
    rw [Lib.extract_data]
    have h2 : k < s.data.toList.length := by rw [Array.length_toList]; exact h
    rw [show k + 1 - k = 1 from by omega, List.drop_eq_getElem_cons h2]
    rfl
  rw [e]
  simp [known]
set_option maxHeartbeats 600000 in
theorem some_any (es : Er → Addr) (w : World) (s : ByteArray) (A : Option Addr) (n cap : Nat) (b : Bs) (hn : n = b.length) (hE : E5 w.heap.size w es)
    (hR : RdC (· < w.heap.size) w A (bvs b)) (hs : s.size ≤ 4000000000000) (hcb : b.length ≤ cap) (hb : b.length ≤ 140737488355328) :
    Calls Tryd.prog 21 #[.string s, .slice A n cap] w (SomePost w (someAt s.data.toList b)) := by
  subst hn
  have hll : s.data.toList.length = s.size := Array.length_toList
  have HL := Lib.hid hll
  clear hll
  have HR := Lib.hid hR
  clear hR
  go_enter Tryd.func21, Tryd.ntmps21
  go_wp2
  go_loopw [1, 12] (fun bv0 i wr => SomeRel w s b bv0 i wr) (fun _ i _ => s.size - (intOf i).toNat)
  case atStart => exact ⟨0, b, A, cap, Nat.zero_le _, rfl, rfl, hcb, Nat.le_refl _, HR.out, Below.refl _ _, by simp⟩
  case round =>
    obtain ⟨k, b', A', c', hk1, rfl, rfl, hc', hb', hR', hbel, hacc⟩ := hrel
    have HA := Lib.hid hacc
    clear hacc
    by_cases hlt : k < s.size
    · have hkl : k < s.data.toList.length := by rw [HL.out]; exact hlt
      have i0 : (0 : Int) ≤ (k : Int) := by omega
      have i1 : (k : Int) < (s.size : Int) := by omega
      have hz := hbel.size
      have hE2 : E5 wr.heap.size wr es := (hE.below hbel).more hz
      have hR2 : RdC (· < wr.heap.size) wr A' (bvs b') := (hR'.below hbel).mono (fun _ h => by omega)
      have HG := Lib.hid (get_any es wr A' b'.length c' b' s[k] rfl hE2 hR2 hc' (by omega))
      have hS : someAt (s.data.toList.drop k) b' = if knownL s[k] = false then (0, false) else
          match decCell s[k] b' with
          | .error _ => (0, false)
          | .ok (_, n) => ((someAt (s.data.toList.drop (k + 1)) (b'.drop n)).1 + 1, (someAt (s.data.toList.drop (k + 1)) (b'.drop n)).2) := someAt_cons s.data.toList b' k hkl
      have HS := Lib.hid hS
      clear hS
      have HK : ∀ W, Calls Tryd.prog 26 #[.string (s.extract k (k + 1))] W fun e w' => e = .returned (.bool (knownL s[k])) ∧ W = w' := fun W => by
        have := known_any (s.extract k (k + 1)) W (by rw [ByteArray.size_extract]; unfold maxLen; omega)
        rw [extract_one s k hlt] at this
        exact this
      have HK2 := Lib.hid HK
      have HBel := Lib.hid hbel
      have HR2 := Lib.hid hR'
      clear hbel hR2 hE2 hR' HK
      cases hkn : knownL s[k] with
      | false =>
        rw [hkn] at HK2
        have hend : someAt s.data.toList b = (k, false) := by rw [HA.out, HS.out, if_pos hkn]; rfl
        have HX := Lib.hid hend
        clear hkn hend
        go_wp2_with (go_at_call 26; refine (HK2.out _).mono ?_; rintro e w' ⟨rfl, rfl⟩)
        go_ret2
        refine ⟨?_, HBel.out⟩
        rw [HX.out]
        rfl
      | true =>
        rw [hkn] at HK2
        have HN := Lib.hid hkn
        clear hkn
        cases he : decCell s[k] b' with
        | ok q =>
          obtain ⟨c, n⟩ := q
          have hnb := decCell_le he
          rw [he] at HG
          have HEn := Lib.hid he
          have hdl : b'.length - n = (b'.drop n).length := by rw [List.length_drop]
          have HD := Lib.hid hdl
          have hnext : someAt s.data.toList b = ((k + 1 : Nat) + (someAt (s.data.toList.drop (k + 1)) (b'.drop n)).1, (someAt (s.data.toList.drop (k + 1)) (b'.drop n)).2) := by
            rw [HA.out, HS.out, if_neg (by rw [HN.out]; simp), HEn.out]
            simp only [Prod.mk.injEq, and_true]
            omega
          have HX := Lib.hid hnext
          clear he hdl hnext
          by_cases hcn : n = c'
          · subst hcn
            have hz0 : b'.drop n = [] := List.drop_eq_nil_of_le (by omega)
            have HZ := Lib.hid hz0
            clear hz0
            go_wp2_with (first
              | (go_at_call 26; refine (HK2.out _).mono ?_; rintro e w' ⟨rfl, rfl⟩)
              | (go_at_call 28; refine HG.out.mono ?_; rintro e w1 ⟨hb1, rfl⟩))
            have hz1 := hb1.size
            have hbel2 : Below w.heap.size w (w1.alloc (.cells #[.int .i64 c.n, .float .f64 c.f, .string c.s] 33)) := (below_then HBel.out hz hb1).alloc (by omega) _
            go_roundw
            case rel => exact ⟨k + 1, b'.drop n, _, 0, by omega, by go_num, by rw [HZ.out]; rfl, by rw [HZ.out]; simp, by rw [HZ.out]; simp, by rw [HZ.out]; exact RdC.nil _ _ _, hbel2, HX.out⟩
            case measure => simp [intOf]; omega
          · have hcn2 : ¬ c' = n := fun e => hcn e.symm
            clear hcn
            go_wp2_with (first
              | (go_at_call 26; refine (HK2.out _).mono ?_; rintro e w' ⟨rfl, rfl⟩)
              | (go_at_call 28; refine HG.out.mono ?_; rintro e w1 ⟨hb1, rfl⟩))
            have hz1 := hb1.size
            have hbel2 : Below w.heap.size w (w1.alloc (.cells #[.int .i64 c.n, .float .f64 c.f, .string c.s] 33)) := (below_then HBel.out hz hb1).alloc (by omega) _
            go_roundw
            case rel => exact ⟨k + 1, b'.drop n, _, _, by omega, by go_num, by rw [HD.out], by rw [List.length_drop]; omega, by rw [List.length_drop]; omega, by simpa [bvs, List.map_drop] using HR2.out.drop n false (by simp), hbel2, HX.out⟩
            case measure => simp [intOf]; omega
        | error er =>
          rw [he] at HG
          have hend : someAt s.data.toList b = (k, false) := by rw [HA.out, HS.out, if_neg (by rw [HN.out]; simp), he]; rfl
          have HX := Lib.hid hend
          clear he hend
          go_wp2_with (first
            | (go_at_call 26; refine (HK2.out _).mono ?_; rintro e w' ⟨rfl, rfl⟩)
            | (go_at_call 28; refine HG.out.mono ?_; rintro e w1 ⟨hb1, rfl⟩))
          go_ret2
          have hz1 := hb1.size
          refine ⟨?_, (below_then HBel.out hz hb1).alloc (by omega) _⟩
          rw [HX.out]
          rfl
    · have hkn : k = s.size := by omega
      have h1 := HA.out
      rw [List.drop_of_length_le (by rw [HL.out]; omega)] at h1
      have H1 := Lib.hid h1
      clear h1
      have hdec : ((b'.length : Int) == 0) = b'.isEmpty := by
        cases b' with
        | nil => rfl
        | cons x xs => simp; omega
      have HDE := Lib.hid hdec
      clear hdec
      subst hkn
      go_wp2
      go_ret2
      refine ⟨?_, hbel⟩
      rw [H1.out]
      simp only [someAt, Nat.add_zero]
      rw [← HDE.out]
      rfl
end Go.Proofs.YtkencpfmbcjppaaDoor
