/- Walks of package fields, fifth part, for seats that do not reach Size: Decode. -/
import Derived.Test.YtipgimmgjdgdeaaDoorVz
import Derived.Test.YtipgimmgjdgdeaaDoorVp
set_option linter.unusedVariables false
set_option linter.unusedSimpArgs false
set_option linter.unnecessarySimpa false
namespace Go.Proofs.YtipgimmgjdgdeaaDoor
open Go.RowKit
attribute [local go_sem] run_store_flt cellV errV

theorem infoCell : (Tryd.prog.info? 121).map (fun i => (i.zero, i.size, i.bytes)) = some (some (.agg #[.int .i64 0, .float .f64 0, .string ⟨#[]⟩]), 3, 32) := by kernel_rfl

def DecPost (es : Er → Addr) (w : World) (r : Except Er (List Cell)) (e : Ending) (w' : World) : Prop :=
  Below w.heap.size w w' ∧ match r with
  | .ok cs => ∃ v', e = .returned (.tuple #[v', .nilIface]) ∧ w'.ownsRow w.heap.size 121 3 v' cs.length (cs.flatMap cellVs)
  | .error er => e = .returned (.tuple #[.slice none 0 0, errV (es er)])

set_option maxRecDepth 8000 in
set_option maxHeartbeats 400000 in
theorem decode_bad (es : Er → Addr) (w : World) (s : ByteArray) (A : Option Addr) (n cap : Nat) (hE : E5 w.heap.size w es) (hkn : known s.data.toList = false) (hs : s.size ≤ maxLen) :
    Calls Tryd.prog 82 #[.string s, .slice A n cap] w (DecPost es w (.error .state)) := by
  obtain ⟨hg, _, hc, _⟩ := hE.state
  go_enter Tryd.func82, Tryd.ntmps82
  go_wp2_with (first
    | (go_at_call 78; refine (known_any s _ hs).mono ?_; rintro e w' ⟨rfl, rfl⟩))
  go_quiet (fail)
  go_wp2
  go_ret2
  exact ⟨below_drewN (Below.refl _ _) _, rfl⟩

def DecRel (w : World) (s : ByteArray) (b : Bs) (bv0 out i : Value) (wr : World) : Prop :=
  ∃ (k : Nat) (acc : List Cell) (b' : Bs) (A' : Option Addr) (c' : Nat), k ≤ s.size ∧ i = .int .i64 k ∧ bv0 = .slice A' b'.length c' ∧ b'.length ≤ c' ∧ RdC (· < w.heap.size) w A' (bvs b') ∧
      wr.ownsRow w.heap.size 121 3 out acc.length (acc.flatMap cellVs) ∧ Below w.heap.size w wr ∧ decAll (s.data.toList.take k) b = .ok (acc, b')
set_option maxRecDepth 8000 in
set_option maxHeartbeats 1000000 in
theorem decode_loop (es : Er → Addr) (w : World) (s : ByteArray) (A : Option Addr) (cap : Nat) (b : Bs) (hE : E5 w.heap.size w es)
    (hR : RdC (· < w.heap.size) w A (bvs b)) (hk : known s.data.toList = true) (hs : s.size ≤ 4000000000000) (hcb : b.length ≤ cap) (hb : b.length ≤ 140737488355328) :
    Calls Tryd.prog 82 #[.string s, .slice A b.length cap] w (DecPost es w ((decAll s.data.toList b).bind fun (cs, r) => if r = [] then .ok cs else .error .tail)) := by
  have hsm : s.size ≤ maxLen := by unfold maxLen; omega
  have hll : s.data.toList.length = s.size := Array.length_toList
  have HL := Lib.hid hll
  obtain ⟨hgT, _, hcT, _⟩ := hE.tail
  clear hll
  obtain ⟨i0, hi, hz0, hz1, hz2⟩ := info_parts infoCell
  have HR := Lib.hid hR
  clear hR
  go_enter Tryd.func82, Tryd.ntmps82
  go_wp2_with (first
    | (go_at_call 78; refine (known_any s _ hsm).mono ?_; rintro e w' ⟨rfl, rfl⟩))
  go_loopw [1, 6, 17] (fun bv0 out i wr => DecRel w s b bv0 out i wr) (fun _ _ i _ => s.size - (intOf i).toNat)
  case atStart => exact ⟨0, [], b, A, cap, Nat.zero_le _, rfl, rfl, hcb, HR.out, World.ownsRow_nil _ _ _ _, Below.refl _ _, by simp [decAll]⟩
  case round =>
    obtain ⟨k, acc, b', A', c', hk1, rfl, rfl, hc', hR', hown, hbel, hacc⟩ := hrel
    have HA := Lib.hid hacc
    have hb' := (decAll_len _ _ _ _ hacc).2
    clear hacc
    by_cases hlt : k < s.size
    · have hkl : k < s.data.toList.length := by rw [HL.out]; exact hlt
      have i0 : (0 : Int) ≤ (k : Int) := by omega
      have i1 : (k : Int) < (s.size : Int) := by omega
      have hz := hbel.size
      have hE2 : E5 wr.heap.size wr es := (hE.below hbel).more hz
      have hR2 : RdC (· < wr.heap.size) wr A' (bvs b') := (hR'.below hbel).mono (fun _ h => by omega)
      have HG := Lib.hid (get_any es wr A' b'.length c' b' s[k] rfl hE2 hR2 hc' (by omega))
      have HBel := Lib.hid hbel
      have HOwn := Lib.hid hown
      have HR2 := Lib.hid hR'
      clear hbel hown hR2 hE2 hR'
      cases he : decCell s[k] b' with
      | ok q =>
        obtain ⟨c, n⟩ := q
        have hnb := decCell_le he
        rw [he] at HG
        have HEn := Lib.hid he
        clear he
        go_wp2_with (first
          | (go_at_call 91; refine HG.out.mono ?_; rintro e w1 ⟨hb1, rfl⟩)
          | (at_builtin; refine wpList_appN w.heap.size _ _ 128 121 _ _ 3 32 rfl (by rfl) Tryd.underlying128 hi hz0 hz1 hz2 rfl (by omega) (by omega) _ acc.length (acc.flatMap cellVs) (cellVs c) (by rfl) (w1.heap.size + 1) (by simp) (by rfl)
              (by exact (own_below HOwn.out hb1).alloc _) rfl (by simp [cellVs, Value.oneCell']) (by have := (decAll_len _ _ _ _ HA.out).1; rw [List.length_take] at this; omega) (by have := hb1.size; simp; omega) ?_; intro v' w2 hown2 hg2))
        all_goals
          have hbel2 : Below w.heap.size w w2 := hg2.below ((below_then HBel.out hz hb1).alloc (by have := hb1.size; omega) _) (by have := hb1.size; simp; omega) (own_base HOwn.out)
          have hacc2 : decAll (s.data.toList.take (k + 1)) b = .ok (acc ++ [c], b'.drop n) := decAll_snoc _ _ k acc b' c n hkl HA.out HEn.out
          have HX := Lib.hid hacc2
          have HO2 := Lib.hid hown2
          have hdl : b'.length - n = (b'.drop n).length := by rw [List.length_drop]
          have HD := Lib.hid hdl
          clear hg2 hacc2 hown2 hdl
        by_cases hcn : c' = n
        · have hz0 : b'.drop n = [] := List.drop_eq_nil_of_le (by omega)
          have HZ := Lib.hid hz0
          clear hz0
          go_wp2
          go_roundw
          case rel => exact ⟨k + 1, acc ++ [c], b'.drop n, _, _, by omega, by go_num, by rw [HD.out], by rw [HZ.out]; simp, by rw [HZ.out]; exact RdC.nil _ _ _, by simpa using HO2.out, hbel2, HX.out⟩
          case measure => simp [intOf]; omega
        · go_wp2
          go_roundw
          case rel => exact ⟨k + 1, acc ++ [c], b'.drop n, _, _, by omega, by go_num, by rw [HD.out], by rw [List.length_drop]; omega, by simpa [bvs, List.map_drop] using HR2.out.drop n false (by simp), by simpa using HO2.out, hbel2, HX.out⟩
          case measure => simp [intOf]; omega
      | error er =>
        rw [he] at HG
        have HEn := Lib.hid he
        clear he
        go_wp2_with (first
          | (go_at_call 91; refine HG.out.mono ?_; rintro e w1 ⟨hb1, rfl⟩))
        go_ret2
        have hz1 := hb1.size
        refine ⟨(below_then HBel.out hz hb1).alloc (by omega) _, ?_⟩
        rw [decAll_stop _ _ k acc b' er hkl HA.out HEn.out]
        rfl
    · have hkn : k = s.size := by omega
      have h1 := HA.out
      rw [List.take_of_length_le (by rw [HL.out]; omega)] at h1
      have H1 := Lib.hid h1
      clear h1
      have hcT2 := (hbel.cell (p := ⟨7, 0, none⟩) hgT).trans hcT
      by_cases hr : b' = []
      · subst hr
        have hlen0 : ([] : Bs).length = 0 := rfl
        go_wp2
        go_ret2
        rw [H1.out]
        exact ⟨hbel, _, rfl, hown⟩
      · have hpos : 0 < b'.length := List.length_pos_iff.2 hr
        have HR := Lib.hid hr
        clear hr
        go_wp2
        go_quiet (fail)
        go_wp2
        go_ret2
        refine ⟨below_drewN hbel _, ?_⟩
        rw [H1.out]
        simp only [Except.bind]
        rw [if_neg HR.out]
        rfl

/-- Decode of every layout and bytes. -/
theorem decode_any (es : Er → Addr) (w : World) (s : ByteArray) (A : Option Addr) (n cap : Nat) (b : Bs) (hn : n = b.length) (hE : E5 w.heap.size w es)
    (hR : RdC (· < w.heap.size) w A (bvs b)) (hs : s.size ≤ 4000000000000) (hcb : b.length ≤ cap) (hb : b.length ≤ 140737488355328) :
    Calls Tryd.prog 82 #[.string s, .slice A n cap] w (DecPost es w (decode s.data.toList b)) := by
  subst hn
  unfold decode
  cases hk : known s.data.toList with
  | false => rw [if_pos rfl]; exact decode_bad es w s A _ cap hE hk (by unfold maxLen; omega)
  | true => rw [if_neg (by simp)]; exact decode_loop es w s A cap b hE hR hk hs hcb hb
end Go.Proofs.YtipgimmgjdgdeaaDoor
