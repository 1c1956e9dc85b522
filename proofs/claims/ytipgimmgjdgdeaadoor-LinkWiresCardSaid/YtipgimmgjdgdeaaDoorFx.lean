/- Walks of package fields, second part. -/
import Derived.Test.YtipgimmgjdgdeaaDoorFw
set_option linter.unusedVariables false
set_option linter.unusedSimpArgs false
set_option linter.unnecessarySimpa false
namespace Go.Proofs.YtipgimmgjdgdeaaDoor
open Go.RowKit
theorem own_lt {w : World} {base : Nat} {e : TypeId} {size n : Nat} {v : Value} {xs : List Value} (h : w.ownsRow base e size v n xs) : some w.heap.size ≠ v.ownBlock := fun he => by
  have := (h.lt _ he.symm).2
  omega

set_option maxRecDepth 8000 in
set_option maxHeartbeats 400000 in
theorem cell_text (es : Er → Addr) (w : World) (base : Nat) (v : Value) (xs : Bs) (l : UInt8) (c : Cell) (HO : w.ownsRow base 5 1 v xs.length (bvs xs))
    (hbase : base ≤ w.heap.size) (hl : xs.length + (2 + c.s.size) ≤ 140737488355328)
    (ht : isText l = true) (hs : ¬ c.s.size > 256 ^ width l - 1) (hs2 : c.s.size ≤ maxLen) :
    Calls Tryd.prog 79 #[v, bv l, cellV c] w (CellPost es w base v xs (.ok (be c.s.size (width l) ++ c.s.data.toList))) := by
  have h1 : ((l.toNat : Int) == 102) = false := by
    rw [beq_eq_false_iff_ne]
    rcases text_width ht with ⟨h, _⟩ | ⟨h, _⟩ <;> omega
  have hw : width l ≤ 2 := by rcases text_width ht with ⟨_, h⟩ | ⟨_, h⟩ <;> omega
  have hne : c.s.size ≤ 9223372036854775807 := by unfold maxLen at hs2; omega
  have hgt : ¬ ((256 ^ width l - 1 : Nat) : Int) < (c.s.size : Int) := by omega
  have hgt2 : decide (((256 ^ width l - 1 : Nat) : Int) < (c.s.size : Int)) = false := by simpa using hgt
  have hwr : IntKind.u64.wrap (c.s.size : Int) = c.s.size := u64_nat _ (by omega)
  have hnb := own_lt HO
  have HB := Lib.hid hbase
  obtain ⟨i0, hi, hz0, hz1, hz2⟩ := info_parts infoU8
  unfold cellV bv
  go_enter Tryd.func79, Tryd.ntmps79
  go_wp2_with (first
    | (go_at_call 84; refine (width_any l _).mono ?_; rintro e w' ⟨rfl, rfl⟩)
    | (go_at_call 86; refine (text_any l _).mono ?_; rintro e w' ⟨rfl, rfl⟩))
  go_quiet ((go_at_call 87; exact quiet_left (most_any _ _ (width_cases l))))
  go_wp2
  go_region_held3 (fun w' => w'.cell? ⟨w.heap.size, 2, none⟩ = some (.string c.s))
    (first
      | go_keep
      | exact hg.cell (by simp) hnb
      | exact hg2.cell (hg.cell (by simp) hnb) (hg.ne hnb (by simp)))
    (first
      | (go_at_call 85; refine (put_any _ base v xs c.s.size (width l) (by omega) (by exact HO.alloc _) (by have := HB.out; simp; omega) (by omega)).mono ?_; rintro e w' ⟨v', rfl, hown, hg⟩)
      | (refine step_appStr _ base _ _ 31 9 5 i0 (by rfl) (by rfl) Tryd.underlying31 Tryd.underlying9 hi hz0 hz1 hz2 _ _ c.s (by rfl) (by rfl) hown (by simp; omega) (by have := HB.out; have := hg.by_.size; simp at this; omega) ?_; intro v2 w2 hown2 hg2))
  go_wp2
  go_ret2
  exact ⟨v2, rfl, by simpa [List.append_assoc] using hown2, (hg.trans hg2).of_drewN.of_alloc⟩

set_option maxRecDepth 8000 in
set_option maxHeartbeats 400000 in
theorem cell_neg (es : Er → Addr) (w : World) (B base : Nat) (v : Value) (xs : Bs) (l : UInt8) (c : Cell) (hE : E3 B w es) (hB : B ≤ w.heap.size)
    (hl : ¬ l = 102) (ht : isText l = false) (hs : c.n < 0) :
    Calls Tryd.prog 79 #[v, bv l, cellV c] w (CellPost es w base v xs (.error .range)) := by
  have h1 : ((l.toNat : Int) == 102) = false := by
    rw [beq_eq_false_iff_ne]
    intro h
    exact hl (UInt8.toNat_inj.1 (by show l.toNat = 102; omega))
  obtain ⟨hg, _, hc, _⟩ := hE.range
  have hnn : 4 < w.heap.size := World.block_lt_of_cell? w _ hc
  unfold cellV bv
  go_enter Tryd.func79, Tryd.ntmps79
  go_wp2_with (first
    | (go_at_call 84; refine (width_any l _).mono ?_; rintro e w' ⟨rfl, rfl⟩)
    | (go_at_call 86; refine (text_any l _).mono ?_; rintro e w' ⟨rfl, rfl⟩))
  go_quiet (fail)
  go_wp2
  go_quiet (fail)
  go_wp2
  go_ret2
  exact ⟨rfl, below_drewN (below_drewN ((Below.refl _ _).alloc (Nat.le_refl _) _) _) _⟩

set_option maxRecDepth 8000 in
set_option maxHeartbeats 400000 in
theorem cell_big (es : Er → Addr) (w : World) (B base : Nat) (v : Value) (xs : Bs) (l : UInt8) (c : Cell) (hE : E3 B w es) (hB : B ≤ w.heap.size)
    (hl : ¬ l = 102) (ht : isText l = false) (hs : ¬ c.n < 0) (hbig : c.n > ((256 ^ width l - 1 : Nat) : Int)) (h63 : c.n ≤ 9223372036854775807) :
    Calls Tryd.prog 79 #[v, bv l, cellV c] w (CellPost es w base v xs (.error .range)) := by
  have h1 : ((l.toNat : Int) == 102) = false := by
    rw [beq_eq_false_iff_ne]
    intro h
    exact hl (UInt8.toNat_inj.1 (by show l.toNat = 102; omega))
  have h0 : 0 ≤ c.n := by omega
  have h00 : decide (c.n < 0) = false := by simpa using hs
  have hgt2 : decide (((256 ^ width l - 1 : Nat) : Int) < c.n) = true := by simpa using hbig
  have hwr : IntKind.u64.wrap c.n = c.n := IntWalk.u64_in _ (by omega)
  obtain ⟨hg, _, hc, _⟩ := hE.range
  have hnn : 4 < w.heap.size := World.block_lt_of_cell? w _ hc
  unfold cellV bv
  go_enter Tryd.func79, Tryd.ntmps79
  go_wp2_with (first
    | (go_at_call 84; refine (width_any l _).mono ?_; rintro e w' ⟨rfl, rfl⟩)
    | (go_at_call 86; refine (text_any l _).mono ?_; rintro e w' ⟨rfl, rfl⟩))
  go_quiet ((go_at_call 87; exact quiet_left (most_any _ _ (width_cases l))))
  go_wp2
  go_quiet (fail)
  go_wp2
  go_ret2
  exact ⟨rfl, below_drewN (below_drewN ((Below.refl _ _).alloc (Nat.le_refl _) _) _) _⟩

set_option maxRecDepth 8000 in
set_option maxHeartbeats 400000 in
theorem cell_num (es : Er → Addr) (w : World) (base : Nat) (v : Value) (xs : Bs) (l : UInt8) (c : Cell) (HO : w.ownsRow base 5 1 v xs.length (bvs xs))
    (hbase : base ≤ w.heap.size) (hlen : xs.length + 8 ≤ 140737488355328)
    (hl : ¬ l = 102) (ht : isText l = false) (hs : ¬ c.n < 0) (hbig : ¬ c.n > ((256 ^ width l - 1 : Nat) : Int)) (h63 : c.n ≤ 9223372036854775807) :
    Calls Tryd.prog 79 #[v, bv l, cellV c] w (CellPost es w base v xs (.ok (be c.n.toNat (width l)))) := by
  have h1 : ((l.toNat : Int) == 102) = false := by
    rw [beq_eq_false_iff_ne]
    intro h
    exact hl (UInt8.toNat_inj.1 (by show l.toNat = 102; omega))
  obtain ⟨⟨n, f, s⟩, rfl⟩ : ∃ x, x = c := ⟨c, rfl⟩
  simp only at hs hbig h63 ⊢
  obtain ⟨m, rfl⟩ := Int.eq_ofNat_of_zero_le (show 0 ≤ n by omega)
  have hgt2 : decide (((256 ^ width l - 1 : Nat) : Int) < (m : Int)) = false := by simpa using hbig
  have h00 : decide ((m : Int) < 0) = false := by simpa using hs
  have hwr : IntKind.u64.wrap (m : Int) = m := IntWalk.u64_in _ (by omega)
  have hwl := width_le l
  have HB := Lib.hid hbase
  unfold cellV bv
  go_enter Tryd.func79, Tryd.ntmps79
  go_wp2_with (first
    | (go_at_call 84; refine (width_any l _).mono ?_; rintro e w' ⟨rfl, rfl⟩)
    | (go_at_call 86; refine (text_any l _).mono ?_; rintro e w' ⟨rfl, rfl⟩))
  go_quiet ((go_at_call 87; exact quiet_left (most_any _ _ (width_cases l))))
  go_wp2_with (go_at_call 85; refine (put_any _ base v xs m (width l) (by omega) (by exact HO.alloc _) (by have := HB.out; simp; omega) (by omega)).mono ?_; rintro e w' ⟨v', rfl, hown, hg⟩)
  go_ret2
  exact ⟨v', rfl, by simpa using hown, hg.of_drewN.of_alloc⟩

/-- 'cell', whatever letter and cell. -/
theorem cell_any (es : Er → Addr) (w : World) (B base : Nat) (v : Value) (xs : Bs) (l : UInt8) (c : Cell) (hE : E3 B w es) (hB : B ≤ w.heap.size) (HO : w.ownsRow base 5 1 v xs.length (bvs xs))
    (hbase : base ≤ w.heap.size) (hlen : xs.length + (8 + c.s.size) ≤ 140737488355328) (h63 : c.n ≤ 9223372036854775807) :
    Calls Tryd.prog 79 #[v, bv l, cellV c] w (CellPost es w base v xs (encCell l c)) := by
  unfold encCell
  by_cases h1 : l = 102
  · subst h1
    rw [if_pos rfl]
    exact cell_f es w base v xs c HO hbase (by omega)
  · rw [if_neg h1]
    cases ht : isText l with
    | true =>
      rw [if_pos rfl]
      by_cases hs : c.s.size > 256 ^ width l - 1
      · rw [if_pos hs]
        exact cell_long es w B base v xs l c hE hB ht hs (by unfold maxLen; omega)
      · rw [if_neg hs]
        exact cell_text es w base v xs l c HO hbase (by omega) ht hs (by unfold maxLen; omega)
    | false =>
      rw [if_neg (by simp)]
      by_cases hs : c.n < 0
      · rw [if_pos (.inl hs)]
        exact cell_neg es w B base v xs l c hE hB h1 ht hs
      · by_cases hbig : c.n > ((256 ^ width l - 1 : Nat) : Int)
        · rw [if_pos (.inr hbig)]
          exact cell_big es w B base v xs l c hE hB h1 ht hs hbig h63
        · rw [if_neg (by rintro (h | h) <;> contradiction)]
          exact cell_num es w base v xs l c HO hbase (by omega) h1 ht hs hbig h63
end Go.Proofs.YtipgimmgjdgdeaaDoor
