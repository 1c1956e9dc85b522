/- Walk of the statement HashParts. -/
import Derived.Test.YtlhoicbgahnagaaDoorGe
set_option linter.unusedVariables false
set_option linter.unusedSimpArgs false
set_option linter.unnecessarySimpa false
namespace Go.Proofs.YtlhoicbgahnagaaDoor
open Go.RowKit

def ints (zs : List Int) : List Value := zs.map (Value.int .i64)
theorem ints_ne {zs : List Int} {t : Nat} (h : t < zs.length) : ints zs ≠ [] := by
  intro e
  have : zs.length = 0 := by simpa [ints] using congrArg List.length e
  omega
theorem RdC.dropIf {ok : Nat → Prop} {w : World} {A : Option Addr} {r : Bs} (h : RdC ok w A (bvs r)) (c k : Nat) (hrc : r.length ≤ c) : RdC ok w (if c = k then A else Option.map (fun x => x.add k) A) (bvs (r.drop k)) := by
  have := h.drop k (decide (c = k)) (fun e => by simp at e; simp; omega)
  rw [bvs_drop]
  simpa using this
theorem cut_at (c : Int) (N : Nat) : -(N : Int) ≤ c.tmod ((N : Int) + 1) ∧ c.tmod ((N : Int) + 1) ≤ N := by
  have h1 := Int.tmod_lt_of_pos c (show (0 : Int) < (N : Int) + 1 by omega)
  have h2 : -((N : Int) + 1) < c.tmod ((N : Int) + 1) := by
    rcases Int.le_total 0 c with h | h
    · have := Int.tmod_nonneg ((N : Int) + 1) h
      omega
    · have h3 := Int.tmod_lt_of_pos (-c) (show (0 : Int) < (N : Int) + 1 by omega)
      rw [Int.neg_tmod] at h3
      omega
  omega
theorem cut_ex (c : Int) (N : Nat) : ∃ k : Nat, (c.tmod ((N : Int) + 1) + (N : Int) + 1) % ((N : Int) + 1) = (k : Int) ∧ k ≤ N := by
  have h0 := Int.emod_nonneg (c.tmod ((N : Int) + 1) + (N : Int) + 1) (show ((N : Int) + 1) ≠ 0 by omega)
  have h1 := Int.emod_lt_of_pos (c.tmod ((N : Int) + 1) + (N : Int) + 1) (show (0 : Int) < (N : Int) + 1 by omega)
  exact ⟨((c.tmod ((N : Int) + 1) + (N : Int) + 1) % ((N : Int) + 1)).toNat, by omega, by omega⟩
set_option maxRecDepth 8000 in
set_option maxHeartbeats 4000000 in
theorem parts_walk (w : World) (K B C : Option Addr) (ck cb cc : Nat) (key b : Bs) (zs : List Int) (hRo : RoundAt w) (hK : RdC (· < w.heap.size) w K (bvs key)) (hB : RdC (· < w.heap.size) w B (bvs b)) (hC : RdC (· < w.heap.size) w C (ints zs))
    (hlk : key.length ≤ maxLen) (hlb : b.length ≤ maxLen) (hlz : zs.length ≤ maxLen) (hck : key.length ≤ ck) (hcb : b.length ≤ cb) (hcm : cb ≤ maxLen) :
    Calls Tryd.prog 7 #[.slice K key.length ck, .slice B b.length cb, .slice C zs.length cc] w (OkPost w) := by
  obtain ⟨i0, hi, hz0, hz1, hz2⟩ := info_parts infoRow
  unfold maxLen at hlk hlb hlz hcm
  have HRo := Lib.hid hRo
  have HK := Lib.hid hK
  have HB := Lib.hid hB
  have HC := Lib.hid hC
  clear hRo hK hB hC
  by_cases hgo : b.length ≤ 20000 ∧ zs.length ≤ 100 ∧ key.length ≤ 20000
  · obtain ⟨hb, hz, hk⟩ := hgo
    have t1 : ¬ (20000 : Int) < (b.length : Int) := by omega
    have t2 : ¬ (100 : Int) < (zs.length : Int) := by omega
    have t3 : ¬ (20000 : Int) < (key.length : Int) := by omega
    go_enter Tryd.func7, Tryd.ntmps7
    go_wp2_with fail
    refine (alive_any w HRo.out).mono ?_
    rintro e w0 ⟨rfl, hb0⟩
    have HB0 := Lib.hid hb0
    have HK0 := Lib.hid (HK.out.step hb0)
    have HBb0 := Lib.hid (HB.out.step hb0)
    have HC0 := Lib.hid (HC.out.step hb0)
    have HR0 := Lib.hid (HRo.out.below hb0 HRo.out.lt)
    clear hb0
    have hzl := World.ownsRow_lit (base := w0.heap.size) (e := 22) (size := 1) w0 #[] 0 (Nat.le_refl _) (by simp [maxLen]) (by simp)
    have HZ := Lib.hid hzl
    clear hzl
    go_wp2_with fail
    go_loopw [7, 8, 31] (fun v u i wq => ∃ (t : Nat) (vs : List Value) (ps : List Bs) (r : Bs) (A : Option Addr) (c : Nat), t ≤ zs.length ∧ i = .int .i64 t ∧ u = .slice A r.length c ∧ r.length ≤ c ∧ c ≤ 9223372036854775807 ∧ r.length ≤ 20000 ∧ vs.length = t ∧ ps.flatten ++ r = b ∧ RdC (· < w0.heap.size) w0 A (bvs r) ∧ wq.ownsRow w0.heap.size 22 1 v t vs ∧ RowsOf (· < w0.heap.size) w0 vs ps ∧ Below w0.heap.size w0 wq) (fun _ _ i _ => zs.length - (intOf i).toNat)
    case atStart => exact ⟨0, [], [], b, B, cb, Nat.zero_le _, rfl, rfl, hcb, by omega, hb, rfl, rfl, HBb0.out, HZ.out, RowsOf.nil _ _, (Below.refl _ _).alloc (Nat.le_refl _) _⟩
    case round =>
      obtain ⟨t, vs, ps, r, A, c, ht, rfl, rfl, hrc, hcm2, hr20, hvl, hfl, hrd, hown, hrows, hbel⟩ := hrel
      have HOw := Lib.hid hown
      have HRws := Lib.hid hrows
      have HBe := Lib.hid hbel
      have HFl := Lib.hid hfl
      have HVl := Lib.hid hvl
      have HRd := Lib.hid hrd
      have hbw : w0.heap.size ≤ wr.heap.size := hbel.size
      clear hown hrows hbel hfl hvl hrd
      by_cases hlt : t < zs.length
      · have j0 : (0 : Int) ≤ (t : Int) := by omega
        have j1 : (t : Int) < (zs.length : Int) := by omega
        obtain ⟨ad, rfl, hok, hcell⟩ := HC0.out (ints_ne hlt)
        have c1 : wr.cell? (ad.add t) = some (.int .i64 (zs.getD t 0)) := (World.cell?_of_block (by rw [add_block]; exact HBe.out.block _ hok)).trans (hcell t _ (by simp [ints, hlt]))
        generalize zs.getD t 0 = z at *
        obtain ⟨q1, q2⟩ := cut_at z r.length
        obtain ⟨k, hk1, hk2⟩ := cut_ex z r.length
        have HK1 := Lib.hid hk1
        clear hk1 hcell
        go_wp2_with fail
        rw [HK1.out]
        have k0 : (0 : Int) ≤ (k : Int) := by omega
        have k1 : (k : Int) ≤ (r.length : Int) := by omega
        have k2 : (k : Int) ≤ (c : Int) := by omega
        have k3 : (r.length : Int) ≤ (c : Int) := by omega
        have hrn := RdC.new wr #[.slice A k k] 22
        have HRn := Lib.hid hrn
        clear hrn
        go_region_held3 (fun _ => True) (trivial)
          ((refine step_appS _ w0.heap.size (.tmp 48) (.tmp 53) 23 22 i0 (.slice none 0 0) 1 24 (by rfl) (by rfl) Tryd.underlying23 hi hz0 hz1 hz2 rfl (by omega) (by omega) _ t vs (by rfl) (HOw.out.alloc _).drew (some ⟨wr.heap.size, 0, none⟩) 1 1 [.slice A k k] (by rfl) (by rfl) (HRn.out.drewN 1) (by simp [Value.oneCell']) (by omega) (by simp; omega) ?_; intro v3 w3 hown3 hg3))
        all_goals (
          have hbel2 : Below w0.heap.size w0 w3 := hg3.below ((HBe.out.alloc hbw _).drew) (by simp; omega) (own_base HOw.out)
          have hrk : RowsOf (· < w0.heap.size) w0 (vs ++ [.slice A k k]) (ps ++ [r.take k]) := RowsOf.append HRws.out (rows_one (by rw [bvs_take]; exact HRd.out.take k) (by rw [List.length_take]; omega) (by rw [List.length_take]; omega))
          have hfl2 : (ps ++ [r.take k]).flatten ++ r.drop k = b := by rw [← HFl.out]; simp
          have HO3 := Lib.hid hown3
          have HRk := Lib.hid hrk
          have HFl2 := Lib.hid hfl2
          have HB3 := Lib.hid hbel2
          have HVl2 := Lib.hid (show (vs ++ [Value.slice A k k]).length = t + 1 by rw [List.length_append, HVl.out]; rfl)
          clear hown3 hg3 hbel2 hrk hfl2
          go_wp2_with fail
          exact ⟨⟨t + 1, _, _, r.drop k, _, _, by omega, by go_num, by rw [List.length_drop], by rw [List.length_drop]; omega, by omega, by rw [List.length_drop]; omega, HVl2.out, HFl2.out, HRd.out.dropIf c k hrc, HO3.out, HRk.out, HB3.out⟩, by simp [intOf]; omega⟩)
      · obtain rfl : t = zs.length := by omega
        have hrn := RdC.new wr #[.slice A r.length c] 22
        have HRn := Lib.hid hrn
        clear hrn
        go_wp2_with (
          at_builtin
          refine wpList_appS _ w0.heap.size (.tmp 59) (.tmp 61) 23 22 i0 (.slice none 0 0) 1 24 rfl (by rfl) Tryd.underlying23 hi hz0 hz1 hz2 rfl (by omega) (by omega) _ zs.length vs (by rfl) (HOw.out.alloc _) (some ⟨wr.heap.size, 0, none⟩) 1 1 [.slice A r.length c] (by rfl) (by rfl) HRn.out (by simp [Value.oneCell']) (by omega) (by simp; omega) ?_
          intro v3 w3 hown3 hg3
          have hbel2 : Below w0.heap.size w0 w3 := hg3.below (HBe.out.alloc hbw _) (by simp; omega) (own_base HOw.out)
          obtain ⟨A7, c7, rfl, hc7, _⟩ := own_slice hown3
          have HO3 := Lib.hid hown3
          have HB3 := Lib.hid hbel2
          clear hown3 hg3 hbel2)
        have hrows : RowsOf (· < w0.heap.size) w0 (vs ++ [.slice A r.length c]) (ps ++ [r]) := RowsOf.append HRws.out (rows_one HRd.out hrc rfl)
        have hflat : (ps ++ [r]).flatten = b := by rw [← HFl.out]; simp
        have hpl : (ps ++ [r]).length = zs.length + 1 := by rw [List.length_append, ← HRws.out.1, HVl.out]; rfl
        generalize ps ++ [r] = PS at *
        generalize vs ++ [Value.slice A r.length c] = VS at *
        have hro3 := HR0.out.below HB3.out HR0.out.lt
        have hrows3 := hrows.toBelow HB3.out HB3.out.size
        have hpa3 := (RdC.of_own HO3.out).mono (ok' := (· < w3.heap.size)) (fun k hk => hk.2)
        have hk3 := HK0.out.toBelow HB3.out HB3.out.size
        have hb3 := HBb0.out.toBelow HB3.out HB3.out.size
        have hp1 : ∀ W, Below w3.heap.size w3 W → Calls Tryd.prog 18 #[.slice A7 (zs.length + 1) c7] W (DigestP W b) := fun W hb => by
          have := digest_any W A7 c7 VS PS (hro3.below hb hro3.lt) (hpa3.toBelow hb hb.size) (hrows3.toBelow hb hb.size) (by omega) (by rw [hflat]; omega)
          rw [hflat, hpl] at this
          exact this
        have hp2 : ∀ W, Below w3.heap.size w3 W → Calls Tryd.prog 13 #[.slice K key.length ck, .slice A7 (zs.length + 1) c7] W (KeyedP W key b) := fun W hb => by
          have := keyed_any W K ck key A7 c7 VS PS (hro3.below hb hro3.lt) (hk3.toBelow hb hb.size) hck (hpa3.toBelow hb hb.size) (hrows3.toBelow hb hb.size) (by omega) (by omega) (by rw [hflat]; omega) (by omega)
          rw [hflat, hpl] at this
          exact this
        have hp3 : ∀ W, Below w3.heap.size w3 W → Calls Tryd.prog 20 #[.slice A7 (zs.length + 1) c7] W (CheckP W b) := fun W hb => by
          have := check_any W A7 c7 VS PS (hro3.below hb hro3.lt) (hpa3.toBelow hb hb.size) (hrows3.toBelow hb hb.size) (by omega) (by rw [hflat]; omega)
          rw [hflat, hpl] at this
          exact this
        have e1 : ([b] : List Bs).flatten = b := by simp
        have hq1 : ∀ W, Below w3.heap.size w3 W → Calls Tryd.prog 18 #[.slice (some ⟨W.heap.size, 0, none⟩) 1 1] (W.alloc (.cells #[.slice B b.length cb] 22)) (DigestP W b) := fun W hb => by
          have := digest_new W [.slice B b.length cb] [b] 1 rfl (hro3.below hb hro3.lt) (rows_one (hb3.toBelow hb hb.size) hcb rfl) (by simp) (by simp; omega)
          rw [e1] at this
          exact this
        have hq2 : ∀ W, Below w3.heap.size w3 W → Calls Tryd.prog 13 #[.slice K key.length ck, .slice (some ⟨W.heap.size, 0, none⟩) 1 1] (W.alloc (.cells #[.slice B b.length cb] 22)) (KeyedP W key b) := fun W hb => by
          have := keyed_new W K ck key [.slice B b.length cb] [b] 1 key.length rfl rfl (hro3.below hb hro3.lt) (hk3.toBelow hb hb.size) hck (rows_one (hb3.toBelow hb hb.size) hcb rfl) (by simp) (by simp; omega) (by omega)
          rw [e1] at this
          exact this
        have hq3 : ∀ W, Below w3.heap.size w3 W → Calls Tryd.prog 20 #[.slice (some ⟨W.heap.size, 0, none⟩) 1 1] (W.alloc (.cells #[.slice B b.length cb] 22)) (CheckP W b) := fun W hb => by
          have := check_new W [.slice B b.length cb] [b] 1 rfl (hro3.below hb hro3.lt) (rows_one (hb3.toBelow hb hb.size) hcb rfl) (by simp) (by simp; omega)
          rw [e1] at this
          exact this
        have heq1 : ∀ W, (binOp .eql 27 (.agg (bvs (sha b)).toArray) (.agg (bvs (sha b)).toArray)).run Tryd.prog W = .ok (.bool true) W := fun W => by rw [eql_bytes Tryd.underlying27 _ _ (sha_length _) (sha_length _) W, beq_self_eq_true]
        have heq2 : ∀ W, (binOp .eql 27 (.agg (bvs (keyed key b)).toArray) (.agg (bvs (keyed key b)).toArray)).run Tryd.prog W = .ok (.bool true) W := fun W => by rw [eql_bytes Tryd.underlying27 _ _ (keyed_length _ _) (keyed_length _ _) W, beq_self_eq_true]
        have hl4 : ((sha b).take 4).length = 4 := by rw [List.length_take, sha_length]; rfl
        have heq3 : ∀ W, (binOp .eql 37 (.agg (bvs ((sha b).take 4)).toArray) (.agg (bvs ((sha b).take 4)).toArray)).run Tryd.prog W = .ok (.bool true) W := fun W => by rw [eql_bytes Tryd.underlying37 _ _ hl4 hl4 W, beq_self_eq_true]
        have HP1 := Lib.hid hp1
        have HP2 := Lib.hid hp2
        have HP3 := Lib.hid hp3
        have HQ1 := Lib.hid hq1
        have HQ2 := Lib.hid hq2
        have HQ3 := Lib.hid hq3
        have HBw := Lib.hid (HB0.out.trans (HB3.out.mono HB0.out.size))
        clear hrows hflat hpl hro3 hrows3 hpa3 hk3 hb3 hp1 hp2 hp3 e1 hq1 hq2 hq3 hl4
        refine (HP1.out w3 (Below.refl _ _)).mono ?_
        rintro e w4 ⟨rfl, hb4⟩
        have HB4 := Lib.hid hb4
        clear hb4
        go_wp2_with fail
        refine (HQ1.out w4 HB4.out).mono ?_
        rintro e w5 ⟨rfl, hb5⟩
        have HB5 := Lib.hid (HB4.out.trans (hb5.mono HB4.out.size))
        clear hb5
        go_wp2_with fail
        refine (HP2.out w5 HB5.out).mono ?_
        rintro e w6 ⟨rfl, hb6⟩
        have HB6 := Lib.hid (HB5.out.trans (hb6.mono HB5.out.size))
        clear hb6
        go_wp2_with fail
        refine (HQ2.out w6 HB6.out).mono ?_
        rintro e w7 ⟨rfl, hb7⟩
        have HB7 := Lib.hid (HB6.out.trans (hb7.mono HB6.out.size))
        clear hb7
        go_wp2_with fail
        refine (HP3.out w7 HB7.out).mono ?_
        rintro e w8 ⟨rfl, hb8⟩
        have HB8 := Lib.hid (HB7.out.trans (hb8.mono HB7.out.size))
        clear hb8
        go_wp2_with fail
        refine (HQ3.out w8 HB8.out).mono ?_
        rintro e w9 ⟨rfl, hb9⟩
        have HB9 := Lib.hid (HBw.out.trans ((HB8.out.trans (hb9.mono HB8.out.size)).mono HBw.out.size))
        clear hb9
        go_wp2_with fail
        go_ret
        exact ⟨rfl, HB9.out⟩
  · by_cases h1 : b.length ≤ 20000
    · have t1 : ¬ (20000 : Int) < (b.length : Int) := by omega
      by_cases h2 : zs.length ≤ 100
      · have t2 : ¬ (100 : Int) < (zs.length : Int) := by omega
        have t3 : (20000 : Int) < (key.length : Int) := by
          have : ¬ key.length ≤ 20000 := fun h => hgo ⟨h1, h2, h⟩
          omega
        clear hgo
        go_enter Tryd.func7, Tryd.ntmps7
        go_wp2_with fail
        refine (alive_any w HRo.out).mono ?_
        rintro e w0 ⟨rfl, hb0⟩
        have HB0 := Lib.hid hb0
        clear hb0
        go_wp2_with fail
        go_ret
        exact ⟨rfl, HB0.out⟩
      · have t2 : (100 : Int) < (zs.length : Int) := by omega
        clear hgo
        go_enter Tryd.func7, Tryd.ntmps7
        go_wp2_with fail
        refine (alive_any w HRo.out).mono ?_
        rintro e w0 ⟨rfl, hb0⟩
        have HB0 := Lib.hid hb0
        clear hb0
        go_wp2_with fail
        go_ret
        exact ⟨rfl, HB0.out⟩
    · have t1 : (20000 : Int) < (b.length : Int) := by omega
      clear hgo
      go_enter Tryd.func7, Tryd.ntmps7
      go_wp2_with fail
      refine (alive_any w HRo.out).mono ?_
      rintro e w0 ⟨rfl, hb0⟩
      have HB0 := Lib.hid hb0
      clear hb0
      go_wp2_with fail
      go_ret
      exact ⟨rfl, HB0.out⟩
end Go.Proofs.YtlhoicbgahnagaaDoor
