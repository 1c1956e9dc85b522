/- Walks of package fields: what each of its functions does to the world. -/
import Derived.Test.YtipgimmgjdgdeaaDoorProg
import Derived.Test.YtipgimmgjdgdeaaDoorFs
import Derived.Lib.Bytealg
import Derived.Deep.QuietTactic
import Derived.BigQuiet
import Derived.Deep.RegionHeld3
import Derived.StillTailTactics
set_option linter.unusedVariables false
set_option linter.unusedSimpArgs false
set_option linter.unnecessarySimpa false
namespace Go.Proofs.YtipgimmgjdgdeaaDoor
open Go.RowKit

theorem infoU8 : (Tryd.prog.info? 5).map (fun i => (i.zero, i.size, i.bytes)) = some (some (.int .u8 0), 1, 1) := by kernel_rfl

theorem ret_congr {a b : Value} (h : a = b) : Ending.returned a = .returned b := by rw [h]
theorem width_val (l : UInt8) : ((width l : Nat) : Int) = if (l.toNat : Int) = 98 ∨ (l.toNat : Int) = 116 then 1 else if (l.toNat : Int) = 104 ∨ (l.toNat : Int) = 114 then 2 else if (l.toNat : Int) = 119 then 4 else 8 := by
  have key : ∀ k : UInt8, (l = k) ↔ (l.toNat : Int) = k.toNat := fun k => by rw [← UInt8.toNat_inj]; omega
  unfold width
  simp only [key]
  have e1 : ((UInt8.toNat 98 : Nat) : Int) = 98 := rfl
  have e2 : ((UInt8.toNat 116 : Nat) : Int) = 116 := rfl
  have e3 : ((UInt8.toNat 104 : Nat) : Int) = 104 := rfl
  have e4 : ((UInt8.toNat 114 : Nat) : Int) = 114 := rfl
  have e5 : ((UInt8.toNat 119 : Nat) : Int) = 119 := rfl
  rw [e1, e2, e3, e4, e5]
  by_cases h1 : (l.toNat : Int) = 98 ∨ (l.toNat : Int) = 116
  · rw [if_pos h1, if_pos h1]; rfl
  · rw [if_neg h1, if_neg h1]
    by_cases h2 : (l.toNat : Int) = 104 ∨ (l.toNat : Int) = 114
    · rw [if_pos h2, if_pos h2]; rfl
    · rw [if_neg h2, if_neg h2]
      by_cases h3 : (l.toNat : Int) = 119
      · rw [if_pos h3, if_pos h3]; rfl
      · rw [if_neg h3, if_neg h3]; rfl

set_option maxHeartbeats 400000 in
theorem width_any (l : UInt8) (w : World) : Calls Tryd.prog 84 #[bv l] w fun e w' =>
   e = .returned (.int .i64 (width l)) ∧ w = w' := by
  have hw := Lib.hid (width_val l)
  unfold bv
  go_enter Tryd.func84, Tryd.ntmps84
  go_wp2
  all_goals
    go_ret
    refine ⟨ret_congr ?_, rfl⟩
    rw [hw.out]
    simp_all

theorem text_val (l : UInt8) : isText l = ((l.toNat : Int) == 116 || (l.toNat : Int) == 114) := by
  have key : ∀ k : UInt8, (l == k) = ((l.toNat : Int) == (k.toNat : Int)) := fun k => by
    rw [Bool.eq_iff_iff, beq_iff_eq, beq_iff_eq, ← UInt8.toNat_inj]; omega
  unfold isText
  rw [key, key]
  rfl
set_option maxHeartbeats 400000 in
theorem text_any (l : UInt8) (w : World) : Calls Tryd.prog 86 #[bv l] w fun e w' =>
   e = .returned (.bool (isText l)) ∧ w = w' := by
  have hw := Lib.hid (text_val l)
  unfold bv
  go_enter Tryd.func86, Tryd.ntmps86
  go_wp2
  all_goals
    go_ret
    refine ⟨ret_congr ?_, rfl⟩
    rw [hw.out]
    simp_all

theorem width_cases (l : UInt8) : width l = 1 ∨ width l = 2 ∨ width l = 4 ∨ width l = 8 := by
  unfold width
  split
  · exact .inl rfl
  · split
    · exact .inr (.inl rfl)
    · split
      · exact .inr (.inr (.inl rfl))
      · exact .inr (.inr (.inr rfl))
set_option maxHeartbeats 400000 in
theorem most_any (n : Nat) (w : World) (h : n = 1 ∨ n = 2 ∨ n = 4 ∨ n = 8) : Calls Tryd.prog 87 #[.int .i64 n] w fun e w' =>
   e = .returned (.int .u64 ((256 ^ n - 1 : Nat) : Int)) ∧ w = w' := by
  rcases h with rfl | rfl | rfl | rfl
  all_goals
    go_enter Tryd.func87, Tryd.ntmps87
    go_wp2
    go_ret
    exact ⟨rfl, rfl⟩

def PutPost (w : World) (base : Nat) (v : Value) (ys : Bs) (e : Ending) (w' : World) : Prop := ∃ v', e = .returned v' ∧
      w'.ownsRow base 5 1 v' ys.length (bvs ys) ∧ Grew w v w' v'

theorem byte_val (u j : Nat) : Value.int .u8 ((u : Int) / 2 ^ (8 * (j - 1)) % 256) = bv (UInt8.ofNat (u / 256 ^ (j - 1))) := by
  unfold bv
  congr 1
  rw [show (2 : Int) ^ (8 * (j - 1)) = ((256 ^ (j - 1) : Nat) : Int) from by rw [Int.natCast_pow, Int.pow_mul]; rfl]
  simp

set_option maxRecDepth 8000 in
set_option maxHeartbeats 400000 in
theorem put_any (w : World) (base : Nat) (v : Value) (xs : Bs) (u k : Nat) (hk : k ≤ 8) (HO : w.ownsRow base 5 1 v xs.length (bvs xs))
    (hbase : base ≤ w.heap.size) (hl : xs.length + k ≤ 140737488355328) :
    Calls Tryd.prog 85 #[v, .int .u64 u, .int .i64 k] w (PutPost w base v (xs ++ be u k)) := by
  go_enter Tryd.func85, Tryd.ntmps85
  go_wp2
  obtain ⟨i0, hi, hz0, hz1, hz2⟩ := info_parts infoU8
  go_loopw [0, 7] (fun b i wr => ∃ j : Nat, j ≤ k ∧ i = .int .i64 ((j : Int) - 1) ∧ wr.ownsRow base 5 1 b (xs ++ (be u k).take (k - j)).length (bvs (xs ++ (be u k).take (k - j))) ∧
      Grew w v wr b) (fun _ i _ => (intOf i + 1).toNat)
  case atStart => exact ⟨k, Nat.le_refl _, rfl, by simpa using HO, Grew.refl _ _⟩
  case round =>
    obtain ⟨j, hj, rfl, hown, hg⟩ := hrel
    have hgs := hg.by_.size
    go_wp2_with (at_builtin; refine wpList_app1 base _ _ 31 5 i0 (.int .u8 0) 1 rfl (by rfl) Tryd.underlying31 hi hz0 hz1 hz2 rfl (by decide) _ _ _ _ (by rfl) _ rfl (by rfl) hown rfl (by simp [be_length]; omega) (by omega) ?_; intro v' w' hown' hg')
    · have hown2 : w'.ownsRow base 5 1 v' (xs ++ (be u k).take (k - (j - 1))).length (bvs (xs ++ (be u k).take (k - (j - 1)))) := by
        rw [be_take u k (j - 1) (by omega), show j - 1 + 1 = j from by omega, ← List.append_assoc, bvs_append]
        rw [byte_val u j] at hown'
        simpa [bvs, Nat.add_assoc] using hown'
      have hg2 := hg.trans hg'
      clear hown hown' hg hg' hgs
      go_wp2
      go_roundw
      case rel => exact ⟨j - 1, by omega, by congr 1; omega, hown2, hg2⟩
      case measure => simp [intOf]; omega
    · go_ret
      have h0 : j = 0 := by omega
      subst h0
      refine ⟨_, rfl, ?_, hg⟩
      have e : (be u k).take (k - 0) = be u k := by rw [Nat.sub_zero]; exact List.take_of_length_le (by simp)
      rw [← e]; exact hown

theorem run_indexByteString (s : ByteArray) (c : Int) (w : World) : (callFunc 94 #[.string s, .int .u8 c]).run Tryd.prog w = .ok (.value (.int .i64 (Lib.indexByte s.data.toList c.toNat.toUInt8))) w := by
  rw [run_callFunc_extern Tryd.func94 (by kernel_rfl) (by kernel_rfl) (by kernel_rfl) (e := Extern.BytealgIndexByte.indexByte) (by kernel_rfl), Lib.run_indexByteString]
  rfl
theorem index_neg (c : UInt8) : ∀ l : Bs, decide (Lib.indexByte l c < 0) = !l.contains c
  | [] => rfl
  | b :: l => by
    have ih := index_neg c l
    have hge := Lib.indexByte_ge l c
    unfold Lib.indexByte
    by_cases hb : b = c
    · subst hb; simp
    · have hcb : ¬ c = b := fun e => hb e.symm
      simp only [beq_iff_eq, hb, if_false, List.contains_cons, beq_eq_false_iff_ne.2 hcb, Bool.false_or]
      rw [← ih]
      by_cases h1 : Lib.indexByte l c = -1
      · rw [if_pos h1, h1]
      · rw [if_neg h1]
        have : ¬ Lib.indexByte l c + 1 < 0 := by omega
        have : ¬ Lib.indexByte l c < 0 := by omega
        simp [*]
def letters : ByteArray := ⟨#[98, 104, 119, 113, 102, 116, 114]⟩
def IdxPost (w : World) (l : UInt8) (e : Ending) (w' : World) : Prop := ∃ i : Int, e = .returned (.int .i64 i) ∧ decide (i < 0) = (!knownL l) ∧ w = w'
set_option maxHeartbeats 400000 in
theorem indexByte_any (l : UInt8) (w : World) : Calls Tryd.prog 83 #[.string letters, bv l] w (IdxPost w l) := by
  have hr := run_indexByteString letters l.toNat
  unfold bv
  go_enter Tryd.func83, Tryd.ntmps83
  go_wp2
  go_ret
  refine ⟨_, rfl, ?_, rfl⟩
  exact index_neg l letters.data.toList

theorem known_take (s : Bs) (k : Nat) (h : k < s.length) : known (s.take (k + 1)) = (known (s.take k) && knownL s[k]) := by
  unfold known
  rw [List.take_succ_eq_append_getElem h, List.all_append]
  simp
theorem known_false (s : Bs) (k : Nat) (h : k < s.length) (hk : knownL s[k] = false) : known s = false := by
  unfold known
  rw [List.all_eq_false]
  exact ⟨s[k], List.getElem_mem h, by simp [hk]⟩
set_option maxHeartbeats 400000 in
theorem known_any (s : ByteArray) (w : World) (hs : s.size ≤ maxLen) : Calls Tryd.prog 78 #[.string s] w fun e w' =>
    e = .returned (.bool (known s.data.toList)) ∧ w = w' := by
  unfold maxLen at hs
  go_enter Tryd.func78, Tryd.ntmps78
  go_wp2
  go_loop [6] (fun i => ∃ k : Nat, k ≤ s.size ∧ i = .int .i64 k ∧ known (s.data.toList.take k) = true) (fun i => s.size - (intOf i).toNat)
  case atStart => exact ⟨0, Nat.zero_le _, rfl, by simp [known]⟩
  case round =>
    obtain ⟨k, hk, rfl, hkn⟩ := hrel
    have HK := Lib.hid hkn
    clear hkn
    by_cases hlt : k < s.size
    · have hll : k < s.data.toList.length := by simpa using hlt
      go_wp2_with (go_at_call 83; refine (indexByte_any s[k] w).mono ?_; rintro e w' ⟨i, rfl, hi, rfl⟩)
      · go_ret
        refine ⟨ret_congr ?_, rfl⟩
        have h1 : (!knownL s[k]) = true := by assumption
        have h2 : knownL (s.data.toList[k]'hll) = false := by rw [show s.data.toList[k]'hll = s[k] from rfl]; simpa using h1
        rw [known_false s.data.toList k hll h2]
        rfl
      · have h1 : (!knownL s[k]) = false := by assumption
        have hk2 : known (s.data.toList.take (k + 1)) = true := by
          rw [known_take _ k hll, HK.out, show s.data.toList[k]'hll = s[k] from rfl]
          simpa using h1
        go_round
        case rel => exact ⟨k + 1, by omega, by go_num, hk2⟩
        case measure => simp [intOf]; omega
    · go_wp2
      go_ret
      refine ⟨ret_congr ?_, rfl⟩
      have := HK.out
      rw [List.take_of_length_le (by simp; omega)] at this
      rw [this]
      rfl

theorem run_f64bits (b : Nat) (w : World) : (callFunc 69 #[.float .f64 b]).run Tryd.prog w = .ok (.value (.int .u64 b)) w := by
  rw [run_callFunc_extern Tryd.func69 (by kernel_rfl) (by kernel_rfl) (by kernel_rfl) (e := Extern.MathFloatBits.float64bits) (by kernel_rfl)]
  rfl
theorem quiet_left {P : Program} {f : FuncId} {args : Array Value} {w : World} {n : Nat} {v : Value}
    (h : Calls P f args (w.drewN n) fun e w' => e = .returned v ∧ w.drewN n = w') : Calls P f args (w.drewN n) fun e w'' => e = .returned v ∧ ∃ m, w'' = w.drewN m :=
  h.mono fun _ _ ⟨he, hm⟩ => ⟨he, n, hm.symm⟩

/-- The errors of package fields. -/
structure E5 (B : Nat) (w : World) (es : Er → Addr) : Prop where
  range : ErrAt B w 4 (es .range)
  short : ErrAt B w 5 (es .short)
  long : ErrAt B w 6 (es .long)
  tail : ErrAt B w 7 (es .tail)
  state : ErrAt B w 3 (es .state)
theorem E5.below {B : Nat} {w w' : World} {es : Er → Addr} (h : E5 B w es) (hb : Below B w w') : E5 B w' es := ⟨h.1.below hb, h.2.below hb, h.3.below hb, h.4.below hb, h.5.below hb⟩
theorem E5.step {w w' : World} {es : Er → Addr} (h : E5 w.heap.size w es) (hb : Below w.heap.size w w') : E5 w'.heap.size w' es := by
  have := h.below hb
  exact ⟨this.1.more hb.size, this.2.more hb.size, this.3.more hb.size, this.4.more hb.size, this.5.more hb.size⟩
theorem E5.more {B B' : Nat} {w : World} {es : Er → Addr} (h : E5 B w es) (hb : B ≤ B') : E5 B' w es := ⟨h.1.more hb, h.2.more hb, h.3.more hb, h.4.more hb, h.5.more hb⟩

/-- Those that Encode may answer. -/
structure E3 (B : Nat) (w : World) (es : Er → Addr) : Prop where
  range : ErrAt B w 4 (es .range)
  long : ErrAt B w 6 (es .long)
  state : ErrAt B w 3 (es .state)
theorem E3.below {B : Nat} {w w' : World} {es : Er → Addr} (h : E3 B w es) (hb : Below B w w') : E3 B w' es := ⟨h.1.below hb, h.2.below hb, h.3.below hb⟩
theorem E3.more {B B' : Nat} {w : World} {es : Er → Addr} (h : E3 B w es) (hb : B ≤ B') : E3 B' w es := ⟨h.1.more hb, h.2.more hb, h.3.more hb⟩
theorem E3.step {w w' : World} {es : Er → Addr} (h : E3 w.heap.size w es) (hb : Below w.heap.size w w') : E3 w'.heap.size w' es := (h.below hb).more hb.size
theorem E5.e3 {B : Nat} {w : World} {es : Er → Addr} (h : E5 B w es) : E3 B w es := ⟨h.range, h.long, h.state⟩

def cellV (c : Cell) : Value := .agg #[.int .i64 c.n, .float .f64 c.f, .string c.s]
/-- What 'cell' comes to: a longer row, or an error and nothing turned. -/
def CellPost (es : Er → Addr) (w : World) (base : Nat) (v : Value) (xs : Bs) (r : Except Er Bs) (e : Ending) (w' : World) : Prop :=
  match r with
  | .ok bs => ∃ v', e = .returned (.tuple #[v', .nilIface]) ∧ w'.ownsRow base 5 1 v' (xs ++ bs).length (bvs (xs ++ bs)) ∧ Grew w v w' v'
  | .error er => e = .returned (.tuple #[.slice none 0 0, errV (es er)]) ∧ Below w.heap.size w w'

set_option maxHeartbeats 400000 in
theorem cell_f (es : Er → Addr) (w : World) (base : Nat) (v : Value) (xs : Bs) (c : Cell) (HO : w.ownsRow base 5 1 v xs.length (bvs xs))
    (hbase : base ≤ w.heap.size) (hl : xs.length + 8 ≤ 140737488355328) :
    Calls Tryd.prog 79 #[v, bv 102, cellV c] w (CellPost es w base v xs (.ok (be c.f 8))) := by
  have hfb := run_f64bits c.f
  unfold cellV bv
  go_enter Tryd.func79, Tryd.ntmps79
  go_wp2_with (first
    | (go_at_call 84; refine (width_any 102 _).mono ?_; rintro e w' ⟨rfl, rfl⟩)
    | (go_at_call 85; refine (put_any _ base _ xs _ 8 (by omega) (HO.alloc _) (by simp; omega) (by omega)).mono ?_; rintro e w' ⟨v', rfl, hown, hg⟩))
  go_ret2
  exact ⟨v', rfl, hown, ⟨(World.grownBy_alloc _ _ _).trans hg.by_, by
    rcases hg.at_ with h | ⟨b, h, hb⟩
    · exact .inl h
    · exact .inr ⟨b, h, by simp at hb; omega⟩⟩⟩

theorem text_width {l : UInt8} (h : isText l = true) : l.toNat = 116 ∧ width l = 1 ∨ l.toNat = 114 ∧ width l = 2 := by
  unfold isText at h
  simp only [Bool.or_eq_true, beq_iff_eq] at h
  rcases h with rfl | rfl
  · exact .inl ⟨rfl, rfl⟩
  · exact .inr ⟨rfl, rfl⟩
set_option maxHeartbeats 400000 in
theorem cell_long (es : Er → Addr) (w : World) (B base : Nat) (v : Value) (xs : Bs) (l : UInt8) (c : Cell) (hE : E3 B w es) (hB : B ≤ w.heap.size)
    (ht : isText l = true) (hs : c.s.size > 256 ^ width l - 1) (hs2 : c.s.size ≤ maxLen) :
    Calls Tryd.prog 79 #[v, bv l, cellV c] w (CellPost es w base v xs (.error .long)) := by
  have h1 : ((l.toNat : Int) == 102) = false := by
    rw [beq_eq_false_iff_ne]
    rcases text_width ht with ⟨h, _⟩ | ⟨h, _⟩ <;> omega
  have hw : width l ≤ 2 := by rcases text_width ht with ⟨_, h⟩ | ⟨_, h⟩ <;> omega
  obtain ⟨hg, _, hc, _⟩ := hE.long
  have hnn : 6 < w.heap.size := World.block_lt_of_cell? w _ hc
  have hne : c.s.size ≤ 9223372036854775807 := by unfold maxLen at hs2; omega
  have hgt : ((256 ^ width l - 1 : Nat) : Int) < (c.s.size : Int) := by omega
  have hgt2 : decide (((256 ^ width l - 1 : Nat) : Int) < (c.s.size : Int)) = true := by simpa using hgt
  unfold cellV bv
  go_enter Tryd.func79, Tryd.ntmps79
  go_wp2_with (first
    | (go_at_call 84; refine (width_any l _).mono ?_; rintro e w' ⟨rfl, rfl⟩)
    | (go_at_call 86; refine (text_any l _).mono ?_; rintro e w' ⟨rfl, rfl⟩))
  go_quiet ((go_at_call 87; exact quiet_left (most_any _ _ (width_cases l))))
  go_wp2
  go_quiet (fail)
  go_wp2
  go_ret2
  exact ⟨rfl, below_drewN (below_drewN ((Below.refl _ _).alloc (Nat.le_refl _) _) _) _⟩

end Go.Proofs.YtipgimmgjdgdeaaDoor
