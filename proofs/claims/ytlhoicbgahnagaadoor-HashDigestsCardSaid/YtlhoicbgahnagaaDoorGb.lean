/- Walk of the statement HashLong. -/
import Derived.Test.YtlhoicbgahnagaaDoorGa
set_option linter.unusedVariables false
set_option linter.unusedSimpArgs false
set_option linter.unnecessarySimpa false
namespace Go.Proofs.YtlhoicbgahnagaaDoor
open Go.RowKit

theorem keyed_long (key b : Bs) (h : 64 < key.length) : keyed (sha key) b = keyed key b := by
  have e : pad64 (sha key) = pad64 key := by
    unfold pad64
    have hs := sha_length key
    simp only [if_pos h, hs, if_neg (show ¬ 64 < 32 by omega)]
  unfold keyed
  simp only [e]
theorem keyed_filled (key b : Bs) (h : key.length ≤ 64) : keyed (key ++ List.replicate (64 - key.length) 0) b = keyed key b := by
  have hl : (key ++ List.replicate (64 - key.length) (0 : UInt8)).length = 64 := by rw [List.length_append, List.length_replicate]; omega
  have e : pad64 (key ++ List.replicate (64 - key.length) 0) = pad64 key := by
    unfold pad64
    simp only [hl, if_neg (show ¬ 64 < 64 by omega), if_neg (show ¬ 64 < key.length by omega), Nat.sub_self, List.replicate_zero, List.append_nil]
  unfold keyed
  simp only [e]
theorem keyed_length (key b : Bs) : (keyed key b).length = 32 := by unfold keyed; exact sha_length _
/-- Keyed of one row that lies somewhere. -/
theorem keyed_at (w1 W : World) (H : Nat) (K : Option Addr) (kc m : Nat) (key : Bs) (A : Option Addr) (n c : Nat) (b : Bs) (hm : key.length = m) (hn : b.length = n) (hRo : RoundAt w1) (hK : RdC (· < w1.heap.size) w1 K (bvs key)) (hkc : key.length ≤ kc) (hA : RdC (· < w1.heap.size) w1 A (bvs b)) (hc : b.length ≤ c)
    (hl : b.length ≤ 1000000000) (hkl : key.length ≤ 1000000000) (hrow : W.heap[H]? = some (.cells #[.slice A n c] 22 (0, 0))) (hbel : Below w1.heap.size w1 W) :
    Calls Tryd.prog 13 #[.slice K m kc, .slice (some ⟨H, 0, none⟩) 1 1] W (KeyedP W key b) := by
  subst hm hn
  have hlt : H < W.heap.size := (Array.getElem?_eq_some_iff.1 hrow).1
  have hk := keyed_any W K kc key (some ⟨H, 0, none⟩) 1 [.slice A b.length c] [b] (hRo.below hbel hRo.lt) (hK.toBelow hbel hbel.size) hkc
    (fun _ => ⟨_, rfl, hlt, World.news_of_block (cs := #[.slice A b.length c]) (t := 22) (fr := (0, 0)) hrow⟩) (rows_one (hA.toBelow hbel hbel.size) hc rfl) (Nat.le_refl _) (by simp) (by simp; omega) (by omega)
  have e : ([b] : List Bs).flatten = b := by simp
  rw [e] at hk
  exact hk
set_option maxRecDepth 8000 in
set_option maxHeartbeats 2000000 in
theorem long_walk (w : World) (A B : Option Addr) (ca cb : Nat) (a b : Bs) (hRo : RoundAt w) (hA : RdC (· < w.heap.size) w A (bvs a)) (hB : RdC (· < w.heap.size) w B (bvs b)) (hla : a.length ≤ maxLen) (hlb : b.length ≤ maxLen) (hca : a.length ≤ ca) (hcb : b.length ≤ cb) :
    Calls Tryd.prog 4 #[.slice A a.length ca, .slice B b.length cb] w (OkPost w) := by
  unfold maxLen at hla hlb
  have HRo := Lib.hid hRo
  have HA := Lib.hid hA
  have HB := Lib.hid hB
  clear hRo hA hB
  by_cases ha : a.length ≤ 5000
  · have t1 : ¬ (5000 : Int) < (a.length : Int) := by omega
    by_cases hb : b.length ≤ 5000
    · have t2 : ¬ (5000 : Int) < (b.length : Int) := by omega
      by_cases h64 : 64 < a.length
      · have t3 : (64 : Int) < (a.length : Int) := by omega
        go_enter Tryd.func4, Tryd.ntmps4
        go_wp2_with fail
        refine (alive_any w HRo.out).mono ?_
        rintro e w0 ⟨rfl, hb0⟩
        have HB0 := Lib.hid hb0
        have hr0 := HRo.out.below hb0 HRo.out.lt
        have HA0 := Lib.hid (HA.out.step hb0)
        have HBb0 := Lib.hid (HB.out.step hb0)
        have hd := digest_new w0 [.slice A a.length ca] [a] 1 rfl hr0 (rows_one HA0.out hca rfl) (by simp) (by simp; omega)
        rw [show ([a] : List Bs).flatten = a by simp] at hd
        have HD := Lib.hid hd
        have HR0 := Lib.hid hr0
        clear hb0 hr0 hd
        go_wp2_with fail
        refine HD.out.mono ?_
        rintro e w1 ⟨rfl, hb1⟩
        have hkl : ∀ W, (binOp .eql 27 (.agg (bvs (keyed a b)).toArray) (.agg (bvs (keyed a b)).toArray)).run Tryd.prog W = .ok (.bool true) W := fun W => by rw [eql_bytes Tryd.underlying27 _ _ (keyed_length _ _) (keyed_length _ _) W, beq_self_eq_true]
        have hll := keyed_long a b h64
        have hdl := sha_length a
        generalize hF : keyed a b = F at *
        generalize hS : sha a = S at *
        have hi32 : (Tryd.prog.info? 27).map (·.size) = some ((bvs S).toArray).size := by rw [info32]; simp [hdl]
        obtain ⟨w2, hw2⟩ : ∃ x, x = w1.alloc (.cells (bvs S).toArray 27 (0, 0)) := ⟨_, rfl⟩
        have hb12 : Below w0.heap.size w0 w2 := by rw [hw2]; exact hb1.alloc hb1.size _
        have hs2 : w2.heap.size = w1.heap.size + 1 := by rw [hw2]; simp
        have hd2 : BArr w2 w1.heap.size 27 S := by rw [hw2]; exact heap_alloc_new _ _
        have hk1 : ∀ W H, W.heap[H]? = some (.cells #[.slice B b.length cb] 22 (0, 0)) → Below w2.heap.size w2 W → Calls Tryd.prog 13 #[.slice A a.length ca, .slice (some ⟨H, 0, none⟩) 1 1] W (fun e w' => e = .returned (.agg (bvs F).toArray) ∧ Below W.heap.size W w') := fun W H h1 h2 => by
          have := keyed_at w2 W H A ca a.length a B b.length cb b rfl rfl (HR0.out.below hb12 HR0.out.lt) (HA0.out.toBelow hb12 hb12.size) hca (HBb0.out.toBelow hb12 hb12.size) hcb (by omega) (by omega) h1 h2
          rw [← hF]
          exact this
        have hk2 : ∀ W H, W.heap[H]? = some (.cells #[.slice B b.length cb] 22 (0, 0)) → Below w2.heap.size w2 W → Calls Tryd.prog 13 #[.slice (some ⟨w1.heap.size, 0, none⟩) 32 32, .slice (some ⟨H, 0, none⟩) 1 1] W (fun e w' => e = .returned (.agg (bvs F).toArray) ∧ Below W.heap.size W w') := fun W H h1 h2 => by
          have := keyed_at w2 W H (some ⟨w1.heap.size, 0, none⟩) 32 32 S B b.length cb b hdl rfl (HR0.out.below hb12 HR0.out.lt) (hd2.reads.mono fun k hk => by omega) (by omega) (HBb0.out.toBelow hb12 hb12.size) hcb (by omega) (by omega) h1 h2
          rw [← hll]
          exact this
        have HI := Lib.hid hi32
        have HDl := Lib.hid hdl
        have HKl := Lib.hid hkl
        have HK1 := Lib.hid hk1
        have HK2 := Lib.hid hk2
        have HW2 := Lib.hid hw2
        have HB2 := Lib.hid (HB0.out.trans (hb12.mono HB0.out.size))
        clear hb1 hll hdl hF hS hi32 hb12 hs2 hd2 hk1 hk2 hw2 hkl
        go_wp2_with (with_reducible refine wpList_store_new (op := ⟨none, .store 27 (.tmp 5) _, _, _, _, _⟩) rfl 27 _ _ rfl _ (bvs S).toArray _ rfl rfl (by simp; exact HDl.out.symm) HI.out (by simpa using bv_one S) ?_)
        rw [← HW2.out]
        have hkl := HKl.out
        go_region_held3 (fun _ => True) (trivial)
          (first
            | (
              (with_reducible refine (HK1.out _ _ ?_ ?_).mono ?_)
              focus (first | exact heap_alloc_new _ _ | exact heap_alloc2_new _ _ _ | exact heap_alloc2_old _ _ _)
              focus (first | exact ((Below.refl _ _).alloc (Nat.le_refl _) _).drew | exact (((Below.refl _ _).alloc (Nat.le_refl _) _).alloc (by simp) _).drew)
              rintro e w3 ⟨rfl, hb3⟩
              have hbx : Below w2.heap.size w2 w3 := by
                first
                  | exact (((Below.refl _ _).alloc (Nat.le_refl _) _).drew).trans (hb3.mono (by simp))
                  | exact ((((Below.refl _ _).alloc (Nat.le_refl _) _).alloc (by simp) _).drew).trans (hb3.mono (by simp; omega)))
            | (
              (with_reducible refine (HK2.out _ _ ?_ ?_).mono ?_)
              focus (first | exact heap_alloc_new _ _ | exact (hb3.block _ (by simp)).trans (heap_alloc2_new _ _ _) | exact (hb3.block _ (by simp; omega)).trans (heap_alloc2_old _ _ _))
              focus (first | exact hbx | exact hbx.alloc hbx.size _)
              rintro e w4 ⟨rfl, hb4⟩))
        all_goals (
          have hbf : Below w.heap.size w w4 := by
            first
              | exact (HB2.out.trans (hbx.mono HB2.out.size)).trans (hb4.mono (Nat.le_trans HB2.out.size hbx.size))
              | exact ((HB2.out.trans (hbx.mono HB2.out.size)).alloc (Nat.le_trans HB2.out.size hbx.size) _).trans (hb4.mono (by have := HB2.out.size; have := hbx.size; simp; omega))
          have HBF := Lib.hid hbf
          clear hbf hb3 hb4 hbx
          go_wp2_with fail
          go_ret
          exact ⟨rfl, HBF.out⟩)
      · have t3 : ¬ (64 : Int) < (a.length : Int) := by omega
        have hmk : ∀ w, (Instr.makeSlice 22 (.int .i64 64) (.int .i64 64)).run Tryd.prog w = .ok (.slice (some ⟨w.heap.size, 0, none⟩) 64 64) (w.alloc (Obj.cells #[Value.int .u8 0, Value.int .u8 0, Value.int .u8 0, Value.int .u8 0, Value.int .u8 0, Value.int .u8 0, Value.int .u8 0, Value.int .u8 0, Value.int .u8 0, Value.int .u8 0, Value.int .u8 0, Value.int .u8 0, Value.int .u8 0, Value.int .u8 0, Value.int .u8 0, Value.int .u8 0, Value.int .u8 0, Value.int .u8 0, Value.int .u8 0, Value.int .u8 0, Value.int .u8 0, Value.int .u8 0, Value.int .u8 0, Value.int .u8 0, Value.int .u8 0, Value.int .u8 0, Value.int .u8 0, Value.int .u8 0, Value.int .u8 0, Value.int .u8 0, Value.int .u8 0, Value.int .u8 0, Value.int .u8 0, Value.int .u8 0, Value.int .u8 0, Value.int .u8 0, Value.int .u8 0, Value.int .u8 0, Value.int .u8 0, Value.int .u8 0, Value.int .u8 0, Value.int .u8 0, Value.int .u8 0, Value.int .u8 0, Value.int .u8 0, Value.int .u8 0, Value.int .u8 0, Value.int .u8 0, Value.int .u8 0, Value.int .u8 0, Value.int .u8 0, Value.int .u8 0, Value.int .u8 0, Value.int .u8 0, Value.int .u8 0, Value.int .u8 0, Value.int .u8 0, Value.int .u8 0, Value.int .u8 0, Value.int .u8 0, Value.int .u8 0, Value.int .u8 0, Value.int .u8 0, Value.int .u8 0] 5 (0, 0))) := fun _ => by kernel_rfl
        go_enter Tryd.func4, Tryd.ntmps4
        go_wp2_with fail
        refine (alive_any w HRo.out).mono ?_
        rintro e w0 ⟨rfl, hb0⟩
        have HB0 := Lib.hid hb0
        have HA0 := Lib.hid (HA.out.step hb0)
        have HBb0 := Lib.hid (HB.out.step hb0)
        have HR0 := Lib.hid (HRo.out.below hb0 HRo.out.lt)
        clear hb0
        have hz0 : BArr (w0.alloc (Obj.cells #[Value.int .u8 0, Value.int .u8 0, Value.int .u8 0, Value.int .u8 0, Value.int .u8 0, Value.int .u8 0, Value.int .u8 0, Value.int .u8 0, Value.int .u8 0, Value.int .u8 0, Value.int .u8 0, Value.int .u8 0, Value.int .u8 0, Value.int .u8 0, Value.int .u8 0, Value.int .u8 0, Value.int .u8 0, Value.int .u8 0, Value.int .u8 0, Value.int .u8 0, Value.int .u8 0, Value.int .u8 0, Value.int .u8 0, Value.int .u8 0, Value.int .u8 0, Value.int .u8 0, Value.int .u8 0, Value.int .u8 0, Value.int .u8 0, Value.int .u8 0, Value.int .u8 0, Value.int .u8 0, Value.int .u8 0, Value.int .u8 0, Value.int .u8 0, Value.int .u8 0, Value.int .u8 0, Value.int .u8 0, Value.int .u8 0, Value.int .u8 0, Value.int .u8 0, Value.int .u8 0, Value.int .u8 0, Value.int .u8 0, Value.int .u8 0, Value.int .u8 0, Value.int .u8 0, Value.int .u8 0, Value.int .u8 0, Value.int .u8 0, Value.int .u8 0, Value.int .u8 0, Value.int .u8 0, Value.int .u8 0, Value.int .u8 0, Value.int .u8 0, Value.int .u8 0, Value.int .u8 0, Value.int .u8 0, Value.int .u8 0, Value.int .u8 0, Value.int .u8 0, Value.int .u8 0, Value.int .u8 0] 5 (0, 0))) w0.heap.size 5 zeros64 := heap_alloc_new _ _
        have HZ0 := Lib.hid hz0
        clear hz0
        go_wp2_with (refine copy_front (o := ⟨some 35, _, _, _, _, _⟩) rfl _ _ 22 5 5 rfl Tryd.underlying22 (by kernel_rfl) w0.heap.size 64 ca 64 a.length A (· < w0.heap.size) zeros64 a zeros64_length rfl rfl rfl HZ0.out (HA0.out.below ((Below.refl _ _).alloc (Nat.le_refl _) _)) (by rw [zeros64_length]; omega) ?_)
        intro w1 hp1 hb1 ho1
        rw [zeros64_drop] at hp1
        have hb01 : Below w0.heap.size w0 w1 := hb1 _ _ (Nat.le_refl _) ((Below.refl _ _).alloc (Nat.le_refl _) _)
        have hfl := keyed_filled a b (by omega)
        have hdl : (a ++ List.replicate (64 - a.length) (0 : UInt8)).length = 64 := by rw [List.length_append, List.length_replicate]; omega
        generalize a ++ List.replicate (64 - a.length) (0 : UInt8) = S at *
        have hkl : ∀ W, (binOp .eql 27 (.agg (bvs (keyed a b)).toArray) (.agg (bvs (keyed a b)).toArray)).run Tryd.prog W = .ok (.bool true) W := fun W => by rw [eql_bytes Tryd.underlying27 _ _ (keyed_length _ _) (keyed_length _ _) W, beq_self_eq_true]
        have hk1 := keyed_at w1 (w1.alloc (.cells #[.slice B b.length cb] 22 (0, 0))) w1.heap.size A ca a.length a B b.length cb b rfl rfl (HR0.out.below hb01 HR0.out.lt) (HA0.out.toBelow hb01 hb01.size) hca (HBb0.out.toBelow hb01 hb01.size) hcb (by omega) (by omega) (heap_alloc_new _ _) ((Below.refl _ _).alloc (Nat.le_refl _) _)
        have hw1 : w0.heap.size < w1.heap.size := hp1.lt
        have HK1 := Lib.hid hk1
        have HP1 := Lib.hid hp1
        have HB1 := Lib.hid (HB0.out.trans (hb01.mono HB0.out.size))
        have HBb1 := Lib.hid (HBb0.out.toBelow hb01 hb01.size)
        have HR1 := Lib.hid (HR0.out.below hb01 HR0.out.lt)
        have HDl := Lib.hid hdl
        have HFl := Lib.hid hfl
        clear hp1 hb1 ho1 hk1 hb01 hdl hfl
        go_wp2_with fail
        refine HK1.out.mono ?_
        rintro e w2 ⟨rfl, hb2⟩
        have hb12 : Below w1.heap.size w1 w2 := ((Below.refl _ _).alloc (Nat.le_refl _) _).trans (hb2.mono (by simp))
        have hk2 := keyed_at w2 (w2.alloc (.cells #[.slice B b.length cb] 22 (0, 0))) w2.heap.size (some ⟨w0.heap.size, 0, none⟩) 64 64 S B b.length cb b HDl.out rfl (HR1.out.below hb12 HR1.out.lt) ((HP1.out.move (hb12.block _ hw1)).reads.mono fun k hk => by have := hb12.size; omega) (by rw [HDl.out]; omega) (HBb1.out.toBelow hb12 hb12.size) hcb (by omega) (by rw [HDl.out]; omega) (heap_alloc_new _ _) ((Below.refl _ _).alloc (Nat.le_refl _) _)
        have HK2 := Lib.hid hk2
        have HB2 := Lib.hid (HB1.out.trans (hb12.mono HB1.out.size))
        clear hb2 hb12 hk2
        go_wp2_with fail
        refine HK2.out.mono ?_
        rintro e w3 ⟨rfl, hb3⟩
        have HB3 := Lib.hid ((HB2.out.alloc HB2.out.size (.cells #[.slice B b.length cb] 22 (0, 0))).trans (hb3.mono (by have := HB2.out.size; simp; omega)))
        clear hb3
        rw [HFl.out]
        go_wp2_with fail
        go_ret
        exact ⟨rfl, HB3.out⟩
    · have t2 : (5000 : Int) < (b.length : Int) := by omega
      go_enter Tryd.func4, Tryd.ntmps4
      go_wp2_with fail
      refine (alive_any w HRo.out).mono ?_
      rintro e w0 ⟨rfl, hb0⟩
      have HB0 := Lib.hid hb0
      clear hb0
      go_wp2_with fail
      go_ret
      exact ⟨rfl, HB0.out⟩
  · have t1 : (5000 : Int) < (a.length : Int) := by omega
    go_enter Tryd.func4, Tryd.ntmps4
    go_wp2_with fail
    refine (alive_any w HRo.out).mono ?_
    rintro e w0 ⟨rfl, hb0⟩
    have HB0 := Lib.hid hb0
    clear hb0
    go_wp2_with fail
    go_ret
    exact ⟨rfl, HB0.out⟩
end Go.Proofs.YtlhoicbgahnagaaDoor
