/- Walk of the statement FrameFields (printed by gen_vk.py). -/
import Derived.Test.YtpekagkhgegefaaDoorVg
import Derived.Deep.RegionHeld3
import Derived.RegionTactic
set_option linter.unusedVariables false
set_option linter.unusedSimpArgs false
set_option linter.unnecessarySimpa false
namespace Go.Proofs.YtpekagkhgegefaaDoor
open Go.RowKit
attribute [local go_sem] run_store_flt

theorem RdC.bytesOf {ok : Nat → Prop} {w : World} {A : Option Addr} {b b' : Bs} (h : RdC ok w A (bvs b)) (e : b' = b) : RdC ok w A (bvs b') := by rw [e]; exact h
theorem field_keep {w3 w' : World} {b3 : Nat} {g : Fr} {A : Option Addr} {c : Nat} {a : Addr} (h3 : FrC w3 b3 g A c) (l3 : b3 < w3.heap.size) (hg : ErrAt w3.heap.size w3 0 a) (hb : Below w3.heap.size w3 w') :
    w'.cell? ⟨b3, 0, none⟩ = some (.int .i64 g.kind) ∧ w'.cell? ⟨b3, 1, none⟩ = some (.int .i64 g.seq) ∧ w'.cell? ⟨b3, 2, none⟩ = some (.int .i64 g.got) ∧ w'.cell? ⟨b3, 3, none⟩ = some (.int .i64 g.stream) ∧ w'.cell? ⟨b3, 4, none⟩ = some (.int .i64 g.amount) ∧ w'.cell? ⟨b3, 5, none⟩ = some (.int .i64 g.code) ∧ w'.cell? ⟨b3, 6, none⟩ = some (.string g.who) ∧ w'.cell? ⟨b3, 7, none⟩ = some (.string g.name) ∧ w'.cell? ⟨b3, 8, none⟩ = some (.float .f64 g.weight) ∧ w'.cell? ⟨b3, 9, none⟩ = some (.slice A g.bytes.length c) ∧ w'.cell? ⟨0, 0, none⟩ = some (errV a) := by
  have k3 := h3.on l3 hb
  exact ⟨k3.c0, k3.c1, k3.c2, k3.c3, k3.c4, k3.c5, k3.c6, k3.c7, k3.c8, k3.c9, (hg.below hb).at⟩
theorem box13 (w : World) (f : Fr) (A : Option Addr) (c : Nat) (a b : Int) (s : ByteArray) (t : TypeId) : ∃ W, W = w.alloc (Obj.cells (frCs f A c ++ #[.int .i64 a, .int .i64 b, .string s]) t) ∧ Below w.heap.size w W ∧ W.heap.size = w.heap.size + 1 ∧ FrC W w.heap.size f A c ∧
    W.cell? ⟨w.heap.size, 10, none⟩ = some (.int .i64 a) ∧ W.cell? ⟨w.heap.size, 11, none⟩ = some (.int .i64 b) ∧ W.cell? ⟨w.heap.size, 12, none⟩ = some (.string s) := by
  refine ⟨_, rfl, below_box _ _, by simp, ?_, ?_, ?_, ?_⟩
  · constructor <;> exact (cell_of_row _ _ _ _ _ _ (heap_alloc_new _ _)).trans rfl
  all_goals exact (cell_of_row _ _ _ _ _ _ (heap_alloc_new _ _)).trans rfl
set_option maxRecDepth 8000 in
set_option maxHeartbeats 40000000 in
theorem fields_walk (es : Er → Addr) (w : World) (f : Fr) (A : Option Addr) (c : Nat) (z n : Int) (s : ByteArray) (hE : FEnv w es) (hl : f.lens) (hA : RdC (· < w.heap.size) w A (bvs f.bytes)) (hs : s.size ≤ 9223372036854775807) :
    Calls Tryd.prog 3 #[.agg (frCs f A c ++ #[.int .i64 z, .int .i64 n, .string s])] w (OkPost w) := by
  obtain ⟨w1, hw1, hb1, hs1, hf1, d10, d11, d12⟩ := box13 w f A c z n s 27
  have HB1 := Lib.hid hb1
  have HS1 := Lib.hid hs1
  have HE := Lib.hid hE
  have HA := Lib.hid hA
  have HLn := Lib.hid hl
  obtain ⟨c0, c1, c2, c3, c4, c5, c6, c7, c8, c9⟩ := hf1
  show Calls Tryd.prog 3 #[.agg #[.int .i64 f.kind, .int .i64 f.seq, .int .i64 f.got, .int .i64 f.stream, .int .i64 f.amount, .int .i64 f.code, .string f.who, .string f.name, .float .f64 f.weight, .slice A f.bytes.length c, .int .i64 z, .int .i64 n, .string s]] w (OkPost w)
  have hw1' : w.alloc (Obj.cells #[.int .i64 f.kind, .int .i64 f.seq, .int .i64 f.got, .int .i64 f.stream, .int .i64 f.amount, .int .i64 f.code, .string f.who, .string f.name, .float .f64 f.weight, .slice A f.bytes.length c, .int .i64 z, .int .i64 n, .string s] 27) = w1 := hw1.symm
  have HW1 := Lib.hid hw1'
  clear hw1 hw1' hb1 hE hA hl hs1
  go_enter Tryd.func3, Tryd.ntmps3
  go_wp2_with fail
  rw [HW1.out]
  have hlt : w.heap.size < w1.heap.size := by rw [HS1.out]; omega
  go_region
  obtain ⟨w2, hw2⟩ : ∃ W, W = (w1.alloc (Obj.cells (frCs f A c) 25)).drew := ⟨_, rfl⟩
  have hb12 : Below w1.heap.size w1 w2 := by rw [hw2]; exact (below_box _ _).drew
  have hf2 : FrC w2 w1.heap.size f A c := by rw [hw2]; exact (FrC.box w1 f A c _).move rfl
  have hz2 : w2.heap.size = w1.heap.size + 1 := by rw [hw2]; simp
  have HB2 := Lib.hid (below_on HB1.out hb12)
  have hal : Calls Tryd.prog 14 #[] ((w1.alloc (Obj.cells #[.int .i64 f.kind, .int .i64 f.seq, .int .i64 f.got, .int .i64 f.stream, .int .i64 f.amount, .int .i64 f.code, .string f.who, .string f.name, .float .f64 f.weight, .slice A f.bytes.length c] 25)).drew) (OkPost w2) := by
    have h := alive05 es w2 (HE.out.step HB2.out)
    rw [hw2] at h ⊢
    exact h
  have HAl := Lib.hid hal
  have HF2 := Lib.hid hf2
  have HZ2 := Lib.hid hz2
  clear hw2 hb12 hf2 hz2 hal c0 c1 c2 c3 c4 c5 c6 c7 c8 c9 d10 d11 d12 hlt
  go_wp2_with fail
  refine HAl.out.mono ?_
  rintro e w3 ⟨rfl, hb3⟩
  have HB3 := Lib.hid (below_on HB2.out hb3)
  have HF3 := Lib.hid (HF2.out.on (by rw [HZ2.out]; omega) hb3)
  have hlt3 : w1.heap.size < w3.heap.size := by have := hb3.size; have := HZ2.out; omega
  have hck := checkF_any es f A c w3 (HE.out.step HB3.out) HLn.out (HA.out.step HB3.out)
  clear hb3 HAl
  obtain ⟨c0, c1, c2, c3, c4, c5, c6, c7, c8, c9⟩ := HF3.out
  cases hc : checkF f with
  | false =>
    have hck2 : Calls Tryd.prog 15 #[frV f A c] w3 (fun e w' => e = .returned (errV (es .frame)) ∧ Below w3.heap.size w3 w') := hck.mono fun e w' h => ⟨by have := h.1; rw [if_neg (by rw [hc]; simp)] at this; exact this, h.2⟩
    have HCk := Lib.hid hck2
    clear hck hck2 hc
    go_wp2_with fail
    refine HCk.out.mono ?_
    rintro e w4 ⟨rfl, hb4⟩
    have HB4 := Lib.hid (below_on HB3.out hb4)
    clear hb4 c0 c1 c2 c3 c4 c5 c6 c7 c8 c9
    unfold errV
    go_wp2_with fail
    go_ret
    exact ⟨rfl, HB4.out⟩
  | true =>
    have hck2 : Calls Tryd.prog 15 #[frV f A c] w3 (fun e w' => e = .returned .nilIface ∧ Below w3.heap.size w3 w') := hck.mono fun e w' h => ⟨by have := h.1; rw [if_pos hc] at this; exact this, h.2⟩
    have HCk := Lib.hid hck2
    have HC := Lib.hid hc
    clear hck hck2 hc
    have hcall : Calls Tryd.prog 15 #[frV f A c] w3 (fun e w' => e = .returned .nilIface ∧ Below w3.heap.size w3 w') := HCk.out
    by_cases hn : n = 0
    · have hn0 : (n == 0) = true := by simpa using hn
      clear hn hcall
      go_wp2_with fail
      refine HCk.out.mono ?_
      rintro e w4 ⟨rfl, hb4⟩
      have HB4 := Lib.hid (below_on HB3.out hb4)
      clear hb4 c0 c1 c2 c3 c4 c5 c6 c7 c8 c9
      go_wp2_with fail
      go_ret
      exact ⟨rfl, HB4.out⟩
    · have hn0 : (n == 0) = false := by simpa using hn
      have HNn := Lib.hid hn
      clear hn hcall
      by_cases hse : s.size = 0
      · have hs1 : s.toList.isEmpty = true := by rw [ByteArray.toList_eq, List.isEmpty_iff]; exact List.eq_nil_of_length_eq_zero (by rw [Array.length_toList]; exact hse)
        have hs2 : (s.toList == []) = true := by rw [beq_iff_eq]; exact List.isEmpty_iff.1 hs1
        have hs3 : s.toList = [] := List.isEmpty_iff.1 hs1
        clear hse
        go_wp2_with fail
        refine HCk.out.mono ?_
        rintro e w4 ⟨rfl, hb4⟩
        have HB4 := Lib.hid (below_on HB3.out hb4)
        clear hb4 c0 c1 c2 c3 c4 c5 c6 c7 c8 c9
        go_wp2_with fail
        go_ret
        exact ⟨rfl, HB4.out⟩
      · have hs1 : s.toList.isEmpty = false := by
          rw [ByteArray.toList_eq, List.isEmpty_eq_false_iff]
          intro e
          exact hse (by have h := congrArg List.length e; rw [Array.length_toList] at h; exact h)
        have hs2 : (s.toList == []) = false := by rw [beq_eq_false_iff_ne]; exact List.isEmpty_eq_false_iff.1 hs1
        have HSe := Lib.hid hse
        clear hse
        by_cases hlg : 2000 < s.size
        · have hlg2 : (2000 : Int) < (s.size : Int) := by omega
          go_wp2_with fail
          refine HCk.out.mono ?_
          rintro e w4 ⟨rfl, hb4⟩
          have HB4 := Lib.hid (below_on HB3.out hb4)
          clear hb4 c0 c1 c2 c3 c4 c5 c6 c7 c8 c9
          go_wp2_with fail
          go_ret
          exact ⟨rfl, HB4.out⟩
        · have hlg2 : ¬ (2000 : Int) < (s.size : Int) := by omega
          go_wp2_with fail
          refine HCk.out.mono ?_
          rintro e w4 ⟨rfl, hb4⟩
          have HB4 := Lib.hid (below_on HB3.out hb4)
          have HF4 := Lib.hid (HF3.out.on hlt3 hb4)
          have hlt4 : w1.heap.size < w4.heap.size := Nat.lt_of_lt_of_le hlt3 hb4.size
          clear hb4 c0 c1 c2 c3 c4 c5 c6 c7 c8 c9
          obtain ⟨w5, hw5⟩ : ∃ W, W = w4.alloc (Obj.cells (frCs f A c) 25) := ⟨_, rfl⟩
          have hb5 : Below w4.heap.size w4 w5 := by rw [hw5]; exact below_box _ _
          have hh5 : w5.heap[w4.heap.size]? = some (.cells (frCs f A c) 25 (0, 0)) := by rw [hw5]; exact heap_alloc_new _ _
          have HB5 := Lib.hid (below_on HB4.out hb5)
          have hly : Calls Tryd.prog 16 #[.int .i64 f.kind] (w4.alloc (Obj.cells #[.int .i64 f.kind, .int .i64 f.seq, .int .i64 f.got, .int .i64 f.stream, .int .i64 f.amount, .int .i64 f.code, .string f.who, .string f.name, .float .f64 f.weight, .slice A f.bytes.length c] 25)) (LayoutP f.kind w5) := by
            have h := layout_any f.kind w5
            rw [hw5] at h ⊢
            exact h
          have HLy := Lib.hid hly
          have HH5 := Lib.hid hh5
          have HF5 := Lib.hid (HF4.out.on hlt4 hb5)
          have hs5 : w5.heap.size = w4.heap.size + 1 := by rw [hw5]; simp
          have HS5 := Lib.hid hs5
          have hlay : 0 < (strOf (layoutF f.kind)).size := by rw [strOf_size]; exact List.length_pos_iff.2 (layout_ne HC.out)
          have hlay3 : (strOf (layoutF f.kind)).size ≤ 3 := by rw [strOf_size]; exact layout_len f.kind
          clear hly hw5 hb5 hh5 hs5
          obtain ⟨c0, c1, c2, c3, c4, c5, c6, c7, c8, c9⟩ := HF4.out
          go_wp2_with fail
          refine HLy.out.mono ?_
          rintro e w6 ⟨rfl, hb6⟩
          have HB6 := Lib.hid (below_on HB5.out hb6)
          have HF6 := Lib.hid (HF5.out.on (by rw [HS5.out]; omega) hb6)
          have hh6 := (hb6.block w4.heap.size (by rw [HS5.out]; omega)).trans HH5.out
          have HH6 := Lib.hid hh6
          have hlt6 : w4.heap.size < w6.heap.size := by have := hb6.size; have := HS5.out; omega
          have HWle := Lib.hid (show w.heap.size ≤ w4.heap.size by have := HB4.out.size; exact this)
          clear hb6 c0 c1 c2 c3 c4 c5 c6 c7 c8 c9 HLy
          obtain ⟨c0, c1, c2, c3, c4, c5, c6, c7, c8, c9⟩ := HF6.out
          obtain ⟨d0, d1, d2, d3, d4, d5, d6, d7, d8, d9⟩ := FrC.of_heap hh6
          have hfz : ∀ j, w6.frozen? ⟨w4.heap.size, j, none⟩ = false := fun j => frozen_of_row w6 w4.heap.size j _ _ hh6
          have z1 := hfz 1
          have z3 := hfz 3
          have z4 := hfz 4
          have z5 := hfz 5
          have z7 := hfz 7
          have z8 := hfz 8
          have z9 := hfz 9
          obtain ⟨m, hm⟩ : ∃ m, bits .and .i64 z 7 = m := ⟨_, rfl⟩
          clear hfz hh6
          by_cases m0 : m = 0
          · subst m0
            by_cases hx : ¬ f.seq = 0
            · have hq : (f.seq != 0) = true := by simpa using hx
              clear hx
              go_wp2_with fail
              go_ret
              exact ⟨rfl, HB6.out⟩
            · have hx0 : f.seq = 0 := Decidable.not_not.1 hx
              have hq : (f.seq != 0) = false := by simpa using hx0
              obtain ⟨g, hgd⟩ : ∃ g : Fr, g = { f with seq := n } := ⟨_, rfl⟩
              have hgc : checkF g = false := field_extra 0 (by omega) (seq_out HC.out hx0) (by rw [hgd]) (by rw [hgd]; exact HNn.out)
              obtain ⟨w7, hw7⟩ : ∃ W, W = w6.setCell ⟨w4.heap.size, 1, none⟩ (.int .i64 n) := ⟨_, rfl⟩
              have HW7 := Lib.hid hw7.symm
              have HX := Lib.hid hx0
              clear hx hx0
              have hb7 : Below w.heap.size w w7 := by rw [hw7]; exact HB6.out.setCell (by exact HWle.out) _
              have hh7 : w7.heap[w4.heap.size]? = some (.cells (frCs g A c) 25 (0, 0)) := by rw [hw7, heap_setCell_same _ _ _ _ _ _ HH6.out, hgd]; rfl
              have hs7 : w7.heap.size = w6.heap.size := by rw [hw7]; simp
              have hrd : RdC (· < w7.heap.size) w7 A (bvs g.bytes) := (HA.out.step hb7).bytesOf (by rw [hgd])
              have hgl : g.lens := by rw [hgd]; exact ⟨HLn.out.who, HLn.out.name, HLn.out.bytes⟩
              have hpu := (putF_any es g A c w7 (HE.out.step hb7) hgl hrd).mono fun e w' h => h.er hgc
              have HPu := Lib.hid hpu
              have HB7 := Lib.hid hb7
              have HH7 := Lib.hid hh7
              have HLt7 := Lib.hid (show w4.heap.size < w7.heap.size by rw [hs7]; omega)
              have HRd := Lib.hid hrd
              have HGl := Lib.hid hgl
              have HGc := Lib.hid hgc
              have hgv : frV g A c = .agg #[.int .i64 f.kind, .int .i64 n, .int .i64 f.got, .int .i64 f.stream, .int .i64 f.amount, .int .i64 f.code, .string f.who, .string f.name, .float .f64 f.weight, .slice A f.bytes.length c] := by rw [hgd]; rfl
              have HGv := Lib.hid hgv
              have HGf := Lib.hid (show FrC w7 w4.heap.size g A c from FrC.of_heap hh7)
              have HGd := Lib.hid hgd
              rw [hgv] at HPu
              clear hw7 hpu hb7 hh7 hs7 hrd hgl hgc hgv hgd
              go_wp2_with fail
              rw [show w6.setCell ⟨w4.heap.size, 1, none⟩ (.int .i64 n) = w7 from HW7.out]
              refine HPu.out.mono ?_
              rintro e w8 ⟨rfl, hb8⟩
              have HB8 := Lib.hid (below_on HB7.out hb8)
              have HGf8 := Lib.hid (HGf.out.on HLt7.out hb8)
              have HLt8 := Lib.hid (Nat.lt_of_lt_of_le HLt7.out hb8.size)
              have HRd8 := Lib.hid (HRd.out.step hb8)
              have HEr8 := Lib.hid (HE.out.step HB8.out).frame
              clear hb8 HPu c0 c1 c2 c3 c4 c5 c6 c7 c8 c9 d0 d1 d2 d3 d4 d5 d6 d7 d8 d9
              have hk := field_keep HGf8.out HLt8.out HEr8.out (Below.refl _ _)
              rw [HGd.out] at hk
              simp only at hk
              obtain ⟨c0, c1, c2, c3, c4, c5, c6, c7, c8, c9, ce⟩ := hk
              have hcg : ∀ W, Below w8.heap.size w8 W → Calls Tryd.prog 15 #[frV g A c] W (fun e w' => e = .returned (errV (es .frame)) ∧ Below W.heap.size W w') := fun W hW =>
                (checkF_any es g A c W (HE.out.step (below_on HB8.out hW)) HGl.out (HRd8.out.step hW)).mono fun e w' h => ⟨by have h1 := h.1; rw [if_neg (by rw [HGc.out]; simp)] at h1; exact h1, h.2⟩
              have HCg := Lib.hid hcg
              rw [HGv.out] at HCg
              have hee := run_err_same
              clear hcg
              unfold errV at ce HCg
              unfold errV
              go_wp2_with fail
              go_region_held3 (fun w' => w'.cell? ⟨w4.heap.size, 0, none⟩ = some (.int .i64 f.kind) ∧ w'.cell? ⟨w4.heap.size, 1, none⟩ = some (.int .i64 n) ∧ w'.cell? ⟨w4.heap.size, 2, none⟩ = some (.int .i64 f.got) ∧ w'.cell? ⟨w4.heap.size, 3, none⟩ = some (.int .i64 f.stream) ∧ w'.cell? ⟨w4.heap.size, 4, none⟩ = some (.int .i64 f.amount) ∧ w'.cell? ⟨w4.heap.size, 5, none⟩ = some (.int .i64 f.code) ∧ w'.cell? ⟨w4.heap.size, 6, none⟩ = some (.string f.who) ∧ w'.cell? ⟨w4.heap.size, 7, none⟩ = some (.string f.name) ∧ w'.cell? ⟨w4.heap.size, 8, none⟩ = some (.float .f64 f.weight) ∧ w'.cell? ⟨w4.heap.size, 9, none⟩ = some (.slice A f.bytes.length c) ∧ w'.cell? ⟨0, 0, none⟩ = some (.iface 147 (.pointer (some (es .frame)))))
                (first | go_keep | (have hq := field_keep HGf8.out HLt8.out HEr8.out ((Below.refl _ _).drew.trans hb9); rw [HGd.out] at hq; exact hq))
                (first
                  | (go_at_call 15; refine (HCg.out _ (by exact (Below.refl _ _).drew)).mono ?_; rintro e w9 ⟨rfl, hb9⟩))
              have HB9 := Lib.hid (below_on HB8.out ((Below.refl _ _).drew.trans hb9))
              clear hb9
              go_wp2_with fail
              go_ret
              exact ⟨rfl, HB9.out⟩
          · by_cases m1 : m = 1
            · subst m1
              clear m0
              by_cases hx : ¬ f.stream = 0
              · have hq : (f.stream != 0) = true := by simpa using hx
                clear hx
                go_wp2_with fail
                go_ret
                exact ⟨rfl, HB6.out⟩
              · have hx0 : f.stream = 0 := Decidable.not_not.1 hx
                have hq : (f.stream != 0) = false := by simpa using hx0
                obtain ⟨g, hgd⟩ : ∃ g : Fr, g = { f with stream := n } := ⟨_, rfl⟩
                have hgc : checkF g = false := field_extra 2 (by omega) (stream_out HC.out hx0) (by rw [hgd]) (by rw [hgd]; exact HNn.out)
                obtain ⟨w7, hw7⟩ : ∃ W, W = w6.setCell ⟨w4.heap.size, 3, none⟩ (.int .i64 n) := ⟨_, rfl⟩
                have HW7 := Lib.hid hw7.symm
                have HX := Lib.hid hx0
                clear hx hx0
                have hb7 : Below w.heap.size w w7 := by rw [hw7]; exact HB6.out.setCell (by exact HWle.out) _
                have hh7 : w7.heap[w4.heap.size]? = some (.cells (frCs g A c) 25 (0, 0)) := by rw [hw7, heap_setCell_same _ _ _ _ _ _ HH6.out, hgd]; rfl
                have hs7 : w7.heap.size = w6.heap.size := by rw [hw7]; simp
                have hrd : RdC (· < w7.heap.size) w7 A (bvs g.bytes) := (HA.out.step hb7).bytesOf (by rw [hgd])
                have hgl : g.lens := by rw [hgd]; exact ⟨HLn.out.who, HLn.out.name, HLn.out.bytes⟩
                have hpu := (putF_any es g A c w7 (HE.out.step hb7) hgl hrd).mono fun e w' h => h.er hgc
                have HPu := Lib.hid hpu
                have HB7 := Lib.hid hb7
                have HH7 := Lib.hid hh7
                have HLt7 := Lib.hid (show w4.heap.size < w7.heap.size by rw [hs7]; omega)
                have HRd := Lib.hid hrd
                have HGl := Lib.hid hgl
                have HGc := Lib.hid hgc
                have hgv : frV g A c = .agg #[.int .i64 f.kind, .int .i64 f.seq, .int .i64 f.got, .int .i64 n, .int .i64 f.amount, .int .i64 f.code, .string f.who, .string f.name, .float .f64 f.weight, .slice A f.bytes.length c] := by rw [hgd]; rfl
                have HGv := Lib.hid hgv
                have HGf := Lib.hid (show FrC w7 w4.heap.size g A c from FrC.of_heap hh7)
                have HGd := Lib.hid hgd
                rw [hgv] at HPu
                clear hw7 hpu hb7 hh7 hs7 hrd hgl hgc hgv hgd
                go_wp2_with fail
                rw [show w6.setCell ⟨w4.heap.size, 3, none⟩ (.int .i64 n) = w7 from HW7.out]
                refine HPu.out.mono ?_
                rintro e w8 ⟨rfl, hb8⟩
                have HB8 := Lib.hid (below_on HB7.out hb8)
                have HGf8 := Lib.hid (HGf.out.on HLt7.out hb8)
                have HLt8 := Lib.hid (Nat.lt_of_lt_of_le HLt7.out hb8.size)
                have HRd8 := Lib.hid (HRd.out.step hb8)
                have HEr8 := Lib.hid (HE.out.step HB8.out).frame
                clear hb8 HPu c0 c1 c2 c3 c4 c5 c6 c7 c8 c9 d0 d1 d2 d3 d4 d5 d6 d7 d8 d9
                have hk := field_keep HGf8.out HLt8.out HEr8.out (Below.refl _ _)
                rw [HGd.out] at hk
                simp only at hk
                obtain ⟨c0, c1, c2, c3, c4, c5, c6, c7, c8, c9, ce⟩ := hk
                have hcg : ∀ W, Below w8.heap.size w8 W → Calls Tryd.prog 15 #[frV g A c] W (fun e w' => e = .returned (errV (es .frame)) ∧ Below W.heap.size W w') := fun W hW =>
                  (checkF_any es g A c W (HE.out.step (below_on HB8.out hW)) HGl.out (HRd8.out.step hW)).mono fun e w' h => ⟨by have h1 := h.1; rw [if_neg (by rw [HGc.out]; simp)] at h1; exact h1, h.2⟩
                have HCg := Lib.hid hcg
                rw [HGv.out] at HCg
                have hee := run_err_same
                clear hcg
                unfold errV at ce HCg
                unfold errV
                go_wp2_with fail
                go_region_held3 (fun w' => w'.cell? ⟨w4.heap.size, 0, none⟩ = some (.int .i64 f.kind) ∧ w'.cell? ⟨w4.heap.size, 1, none⟩ = some (.int .i64 f.seq) ∧ w'.cell? ⟨w4.heap.size, 2, none⟩ = some (.int .i64 f.got) ∧ w'.cell? ⟨w4.heap.size, 3, none⟩ = some (.int .i64 n) ∧ w'.cell? ⟨w4.heap.size, 4, none⟩ = some (.int .i64 f.amount) ∧ w'.cell? ⟨w4.heap.size, 5, none⟩ = some (.int .i64 f.code) ∧ w'.cell? ⟨w4.heap.size, 6, none⟩ = some (.string f.who) ∧ w'.cell? ⟨w4.heap.size, 7, none⟩ = some (.string f.name) ∧ w'.cell? ⟨w4.heap.size, 8, none⟩ = some (.float .f64 f.weight) ∧ w'.cell? ⟨w4.heap.size, 9, none⟩ = some (.slice A f.bytes.length c) ∧ w'.cell? ⟨0, 0, none⟩ = some (.iface 147 (.pointer (some (es .frame)))))
                  (first | go_keep | (have hq := field_keep HGf8.out HLt8.out HEr8.out ((Below.refl _ _).drew.trans hb9); rw [HGd.out] at hq; exact hq))
                  (first
                    | (go_at_call 15; refine (HCg.out _ (by exact (Below.refl _ _).drew)).mono ?_; rintro e w9 ⟨rfl, hb9⟩))
                have HB9 := Lib.hid (below_on HB8.out ((Below.refl _ _).drew.trans hb9))
                clear hb9
                go_wp2_with fail
                go_ret
                exact ⟨rfl, HB9.out⟩
            · by_cases m2 : m = 2
              · subst m2
                clear m0 m1
                by_cases hx : ¬ f.name.size = 0
                · have n1 : f.name.toList.isEmpty = false := by
                    rw [ByteArray.toList_eq, List.isEmpty_eq_false_iff]
                    intro e
                    exact hx (by have h := congrArg List.length e; rw [Array.length_toList] at h; exact h)
                  have n2 : (f.name.toList == []) = false := by rw [beq_eq_false_iff_ne]; exact List.isEmpty_eq_false_iff.1 n1
                  clear hx
                  go_wp2_with fail
                  go_ret
                  exact ⟨rfl, HB6.out⟩
                · have hx0 : f.name.size = 0 := Decidable.not_not.1 hx
                  have n1 : f.name.toList.isEmpty = true := by rw [ByteArray.toList_eq, List.isEmpty_iff]; exact List.eq_nil_of_length_eq_zero (by rw [Array.length_toList]; exact hx0)
                  have n2 : (f.name.toList == []) = true := by rw [beq_iff_eq]; exact List.isEmpty_iff.1 n1
                  have n3 : f.name.toList = [] := List.isEmpty_iff.1 n1
                  obtain ⟨g, hgd⟩ : ∃ g : Fr, g = { f with name := s } := ⟨_, rfl⟩
                  have hgc : checkF g = false := field_extra 6 (by omega) (name_out HC.out hx0) (by rw [hgd]) (by rw [hgd]; exact (fun e => HSe.out (by rw [show s = noS from e]; rfl)))
                  obtain ⟨w7, hw7⟩ : ∃ W, W = w6.setCell ⟨w4.heap.size, 7, none⟩ (.string s) := ⟨_, rfl⟩
                  have HW7 := Lib.hid hw7.symm
                  have HX := Lib.hid hx0
                  clear hx hx0
                  have hb7 : Below w.heap.size w w7 := by rw [hw7]; exact HB6.out.setCell (by exact HWle.out) _
                  have hh7 : w7.heap[w4.heap.size]? = some (.cells (frCs g A c) 25 (0, 0)) := by rw [hw7, heap_setCell_same _ _ _ _ _ _ HH6.out, hgd]; rfl
                  have hs7 : w7.heap.size = w6.heap.size := by rw [hw7]; simp
                  have hrd : RdC (· < w7.heap.size) w7 A (bvs g.bytes) := (HA.out.step hb7).bytesOf (by rw [hgd])
                  have hgl : g.lens := by rw [hgd]; exact ⟨HLn.out.who, hs, HLn.out.bytes⟩
                  have hpu := (putF_any es g A c w7 (HE.out.step hb7) hgl hrd).mono fun e w' h => h.er hgc
                  have HPu := Lib.hid hpu
                  have HB7 := Lib.hid hb7
                  have HH7 := Lib.hid hh7
                  have HLt7 := Lib.hid (show w4.heap.size < w7.heap.size by rw [hs7]; omega)
                  have HRd := Lib.hid hrd
                  have HGl := Lib.hid hgl
                  have HGc := Lib.hid hgc
                  have hgv : frV g A c = .agg #[.int .i64 f.kind, .int .i64 f.seq, .int .i64 f.got, .int .i64 f.stream, .int .i64 f.amount, .int .i64 f.code, .string f.who, .string s, .float .f64 f.weight, .slice A f.bytes.length c] := by rw [hgd]; rfl
                  have HGv := Lib.hid hgv
                  have HGf := Lib.hid (show FrC w7 w4.heap.size g A c from FrC.of_heap hh7)
                  have HGd := Lib.hid hgd
                  rw [hgv] at HPu
                  clear hw7 hpu hb7 hh7 hs7 hrd hgl hgc hgv hgd
                  go_wp2_with fail
                  rw [show w6.setCell ⟨w4.heap.size, 7, none⟩ (.string s) = w7 from HW7.out]
                  refine HPu.out.mono ?_
                  rintro e w8 ⟨rfl, hb8⟩
                  have HB8 := Lib.hid (below_on HB7.out hb8)
                  have HGf8 := Lib.hid (HGf.out.on HLt7.out hb8)
                  have HLt8 := Lib.hid (Nat.lt_of_lt_of_le HLt7.out hb8.size)
                  have HRd8 := Lib.hid (HRd.out.step hb8)
                  have HEr8 := Lib.hid (HE.out.step HB8.out).frame
                  clear hb8 HPu c0 c1 c2 c3 c4 c5 c6 c7 c8 c9 d0 d1 d2 d3 d4 d5 d6 d7 d8 d9
                  have hk := field_keep HGf8.out HLt8.out HEr8.out (Below.refl _ _)
                  rw [HGd.out] at hk
                  simp only at hk
                  obtain ⟨c0, c1, c2, c3, c4, c5, c6, c7, c8, c9, ce⟩ := hk
                  have hcg : ∀ W, Below w8.heap.size w8 W → Calls Tryd.prog 15 #[frV g A c] W (fun e w' => e = .returned (errV (es .frame)) ∧ Below W.heap.size W w') := fun W hW =>
                    (checkF_any es g A c W (HE.out.step (below_on HB8.out hW)) HGl.out (HRd8.out.step hW)).mono fun e w' h => ⟨by have h1 := h.1; rw [if_neg (by rw [HGc.out]; simp)] at h1; exact h1, h.2⟩
                  have HCg := Lib.hid hcg
                  rw [HGv.out] at HCg
                  have hee := run_err_same
                  clear hcg
                  unfold errV at ce HCg
                  unfold errV
                  go_wp2_with fail
                  go_region_held3 (fun w' => w'.cell? ⟨w4.heap.size, 0, none⟩ = some (.int .i64 f.kind) ∧ w'.cell? ⟨w4.heap.size, 1, none⟩ = some (.int .i64 f.seq) ∧ w'.cell? ⟨w4.heap.size, 2, none⟩ = some (.int .i64 f.got) ∧ w'.cell? ⟨w4.heap.size, 3, none⟩ = some (.int .i64 f.stream) ∧ w'.cell? ⟨w4.heap.size, 4, none⟩ = some (.int .i64 f.amount) ∧ w'.cell? ⟨w4.heap.size, 5, none⟩ = some (.int .i64 f.code) ∧ w'.cell? ⟨w4.heap.size, 6, none⟩ = some (.string f.who) ∧ w'.cell? ⟨w4.heap.size, 7, none⟩ = some (.string s) ∧ w'.cell? ⟨w4.heap.size, 8, none⟩ = some (.float .f64 f.weight) ∧ w'.cell? ⟨w4.heap.size, 9, none⟩ = some (.slice A f.bytes.length c) ∧ w'.cell? ⟨0, 0, none⟩ = some (.iface 147 (.pointer (some (es .frame)))))
                    (first | go_keep | (have hq := field_keep HGf8.out HLt8.out HEr8.out ((Below.refl _ _).drew.trans hb9); rw [HGd.out] at hq; exact hq))
                    (first
                      | (go_at_call 15; refine (HCg.out _ (by exact (Below.refl _ _).drew)).mono ?_; rintro e w9 ⟨rfl, hb9⟩))
                  have HB9 := Lib.hid (below_on HB8.out ((Below.refl _ _).drew.trans hb9))
                  clear hb9
                  go_wp2_with fail
                  go_ret
                  exact ⟨rfl, HB9.out⟩
              · by_cases m3 : m = 3
                · subst m3
                  clear m0 m1 m2
                  by_cases hx : ¬ f.kind = 15
                  · have hq : (f.kind != 15) = true := by simpa using hx
                    clear hx
                    go_wp2_with fail
                    go_ret
                    exact ⟨rfl, HB6.out⟩
                  · have hx0 : f.kind = 15 := Decidable.not_not.1 hx
                    have hq : (f.kind != 15) = false := by simpa using hx0
                    obtain ⟨g, hgd⟩ : ∃ g : Fr, g = { f with bytes := s.data.toList } := ⟨_, rfl⟩
                    have hgc : checkF g = false := field_extra 8 (by omega) (by rw [hx0]; decide) (by rw [hgd]) (by rw [hgd]; exact fun e => HSe.out (by have h := congrArg List.length (show s.data.toList = [] from e); rw [Array.length_toList] at h; exact h))
                    have hcv := Lib.run_convert_string_bytes (P := Tryd.prog) w6 9 23 5 s Tryd.underlying9 Tryd.underlying23 Tryd.underlying5
                    have hsz := Lib.bytesWorld_size w6 5 s
                    have hold := Lib.bytesWorld_at_old w6 5 s
                    have hnew := Lib.bytesWorld_cell w6 5 s
                    have hos : (Lib.bytesWorld w6 5 s).os = w6.os ∧ (Lib.bytesWorld w6 5 s).tape = w6.tape ∧ (Lib.bytesWorld w6 5 s).output = w6.output := ⟨rfl, rfl, rfl⟩
                    generalize grownCap w6 s.size 0 5 = cp at *
                    generalize Lib.bytesWorld w6 5 s = wb at *
                    have hhb : wb.heap[w4.heap.size]? = some (.cells (frCs f A c) 25 (0, 0)) := (hold _ hlt6).trans HH6.out
                    obtain ⟨w7, hw7⟩ : ∃ W, W = wb.setCell ⟨w4.heap.size, 9, none⟩ (.slice (some ⟨w6.heap.size, 0, none⟩) s.size cp) := ⟨_, rfl⟩
                    have HW7 := Lib.hid hw7.symm
                    have HX := Lib.hid hx0
                    clear hx hx0
                    have hb7 : Below w.heap.size w w7 := by rw [hw7]; exact (HB6.out.trans ⟨hos.1, hos.2.1, hos.2.2, by omega, fun k hk => hold k (by have := HWle.out; omega)⟩).setCell (by exact HWle.out) _
                    have hh7 : w7.heap[w4.heap.size]? = some (.cells (frCs g (some ⟨w6.heap.size, 0, none⟩) cp) 25 (0, 0)) := by
                      rw [hw7, heap_setCell_same _ _ _ _ _ _ hhb, hgd]
                      unfold frCs
                      rw [show ({ f with bytes := s.data.toList } : Fr).bytes.length = s.size from Array.length_toList]
                      rfl
                    have hs7 : w7.heap.size = w6.heap.size + 1 := by rw [hw7, World.size_setCell]; exact hsz
                    have hrd : RdC (· < w7.heap.size) w7 (some ⟨w6.heap.size, 0, none⟩) (bvs g.bytes) := by
                      refine fun _ => ⟨_, rfl, by show w6.heap.size < _; omega, fun j u hj => ?_⟩
                      have hj' : (bvs s.data.toList)[j]? = some u := by rw [hgd] at hj; exact hj
                      have hll : s.data.toList.length = s.size := Array.length_toList
                      generalize s.data.toList = l at hj' hnew hll
                      have hjl : j < l.length := by
                        have := (List.getElem?_eq_some_iff.1 hj').1
                        rw [bvs_length] at this
                        exact this
                      have hj2 := hnew j (by rw [← hll]; exact hjl)
                      have hu : u = .int .u8 (l.getD j 0).toNat := by
                        rw [bvs_get _ _ hjl] at hj'
                        rw [← Option.some.inj hj', List.getD_eq_getElem?_getD, List.getElem?_eq_getElem hjl]
                        rfl
                      rw [addr0, hu, hw7]
                      exact (World.cell?_setCell_far _ _ _ _ (by show w4.heap.size ≠ w6.heap.size; omega)).trans hj2
                    have hgl : g.lens := by rw [hgd]; exact ⟨HLn.out.who, HLn.out.name, by show s.data.toList.length ≤ _; rw [Array.length_toList]; exact hs⟩
                    have hpu := (putF_any es g (some ⟨w6.heap.size, 0, none⟩) cp w7 (HE.out.step hb7) hgl hrd).mono fun e w' h => h.er hgc
                    have HPu := Lib.hid hpu
                    have HB7 := Lib.hid hb7
                    have HH7 := Lib.hid hh7
                    have HLt7 := Lib.hid (show w4.heap.size < w7.heap.size by rw [hs7]; omega)
                    have HRd := Lib.hid hrd
                    have HGl := Lib.hid hgl
                    have HGc := Lib.hid hgc
                    have hgv : frV g (some ⟨w6.heap.size, 0, none⟩) cp = .agg #[.int .i64 f.kind, .int .i64 f.seq, .int .i64 f.got, .int .i64 f.stream, .int .i64 f.amount, .int .i64 f.code, .string f.who, .string f.name, .float .f64 f.weight, .slice (some ⟨w6.heap.size, 0, none⟩) s.size cp] := by
                      rw [hgd]
                      unfold frV
                      rw [show ({ f with bytes := s.data.toList } : Fr).bytes.length = s.size from Array.length_toList]
                    have HGv := Lib.hid hgv
                    have HGf := Lib.hid (show FrC w7 w4.heap.size g (some ⟨w6.heap.size, 0, none⟩) cp from FrC.of_heap hh7)
                    have HGd := Lib.hid hgd
                    rw [hgv] at HPu
                    clear hw7 hpu hb7 hh7 hs7 hrd hgl hgc hgv hgd
                    clear d0 d1 d2 d3 d4 d5 d6 d7 d8 d9 z1 z3 z4 z5 z7 z8 z9
                    obtain ⟨d0, d1, d2, d3, d4, d5, d6, d7, d8, d9⟩ := FrC.of_heap hhb
                    have z9 := frozen_of_row wb w4.heap.size 9 _ _ hhb
                    clear hsz hold hnew hos hhb
                    go_wp2_with fail
                    rw [show wb.setCell ⟨w4.heap.size, 9, none⟩ (.slice (some ⟨w6.heap.size, 0, none⟩) s.size cp) = w7 from HW7.out]
                    refine HPu.out.mono ?_
                    rintro e w8 ⟨rfl, hb8⟩
                    have HB8 := Lib.hid (below_on HB7.out hb8)
                    have HGf8 := Lib.hid (HGf.out.on HLt7.out hb8)
                    have HLt8 := Lib.hid (Nat.lt_of_lt_of_le HLt7.out hb8.size)
                    have HRd8 := Lib.hid (HRd.out.step hb8)
                    have HEr8 := Lib.hid (HE.out.step HB8.out).frame
                    clear hb8 HPu c0 c1 c2 c3 c4 c5 c6 c7 c8 c9 d0 d1 d2 d3 d4 d5 d6 d7 d8 d9 hcv
                    have hk := field_keep HGf8.out HLt8.out HEr8.out (Below.refl _ _)
                    rw [HGd.out] at hk
                    simp only [show s.data.toList.length = s.size from Array.length_toList] at hk
                    obtain ⟨c0, c1, c2, c3, c4, c5, c6, c7, c8, c9, ce⟩ := hk
                    have hcg : ∀ W, Below w8.heap.size w8 W → Calls Tryd.prog 15 #[frV g (some ⟨w6.heap.size, 0, none⟩) cp] W (fun e w' => e = .returned (errV (es .frame)) ∧ Below W.heap.size W w') := fun W hW =>
                      (checkF_any es g (some ⟨w6.heap.size, 0, none⟩) cp W (HE.out.step (below_on HB8.out hW)) HGl.out (HRd8.out.step hW)).mono fun e w' h => ⟨by have h1 := h.1; rw [if_neg (by rw [HGc.out]; simp)] at h1; exact h1, h.2⟩
                    have HCg := Lib.hid hcg
                    rw [HGv.out] at HCg
                    have hee := run_err_same
                    clear hcg
                    unfold errV at ce HCg
                    unfold errV
                    go_wp2_with fail
                    go_region_held3 (fun w' => w'.cell? ⟨w4.heap.size, 0, none⟩ = some (.int .i64 f.kind) ∧ w'.cell? ⟨w4.heap.size, 1, none⟩ = some (.int .i64 f.seq) ∧ w'.cell? ⟨w4.heap.size, 2, none⟩ = some (.int .i64 f.got) ∧ w'.cell? ⟨w4.heap.size, 3, none⟩ = some (.int .i64 f.stream) ∧ w'.cell? ⟨w4.heap.size, 4, none⟩ = some (.int .i64 f.amount) ∧ w'.cell? ⟨w4.heap.size, 5, none⟩ = some (.int .i64 f.code) ∧ w'.cell? ⟨w4.heap.size, 6, none⟩ = some (.string f.who) ∧ w'.cell? ⟨w4.heap.size, 7, none⟩ = some (.string f.name) ∧ w'.cell? ⟨w4.heap.size, 8, none⟩ = some (.float .f64 f.weight) ∧ w'.cell? ⟨w4.heap.size, 9, none⟩ = some (.slice (some ⟨w6.heap.size, 0, none⟩) s.size cp) ∧ w'.cell? ⟨0, 0, none⟩ = some (.iface 147 (.pointer (some (es .frame)))))
                      (first | go_keep | (have hq := field_keep HGf8.out HLt8.out HEr8.out ((Below.refl _ _).drew.trans hb9); rw [HGd.out] at hq; simp only [show s.data.toList.length = s.size from Array.length_toList] at hq; exact hq))
                      (first
                        | (go_at_call 15; refine (HCg.out _ (by exact (Below.refl _ _).drew)).mono ?_; rintro e w9 ⟨rfl, hb9⟩))
                    have HB9 := Lib.hid (below_on HB8.out ((Below.refl _ _).drew.trans hb9))
                    clear hb9
                    go_wp2_with fail
                    go_ret
                    exact ⟨rfl, HB9.out⟩
                · by_cases m4 : m = 4
                  · subst m4
                    clear m0 m1 m2 m3
                    by_cases hx : ¬ f.kind = 9
                    · have hq : (f.kind != 9) = true := by simpa using hx
                      clear hx
                      go_wp2_with fail
                      go_ret
                      exact ⟨rfl, HB6.out⟩
                    · have hx0 : f.kind = 9 := Decidable.not_not.1 hx
                      have hq : (f.kind != 9) = false := by simpa using hx0
                      obtain ⟨g, hgd⟩ : ∃ g : Fr, g = { f with amount := n } := ⟨_, rfl⟩
                      have hgc : checkF g = false := field_extra 3 (by omega) (by rw [hx0]; decide) (by rw [hgd]) (by rw [hgd]; exact HNn.out)
                      obtain ⟨w7, hw7⟩ : ∃ W, W = w6.setCell ⟨w4.heap.size, 4, none⟩ (.int .i64 n) := ⟨_, rfl⟩
                      have HW7 := Lib.hid hw7.symm
                      have HX := Lib.hid hx0
                      clear hx hx0
                      have hb7 : Below w.heap.size w w7 := by rw [hw7]; exact HB6.out.setCell (by exact HWle.out) _
                      have hh7 : w7.heap[w4.heap.size]? = some (.cells (frCs g A c) 25 (0, 0)) := by rw [hw7, heap_setCell_same _ _ _ _ _ _ HH6.out, hgd]; rfl
                      have hs7 : w7.heap.size = w6.heap.size := by rw [hw7]; simp
                      have hrd : RdC (· < w7.heap.size) w7 A (bvs g.bytes) := (HA.out.step hb7).bytesOf (by rw [hgd])
                      have hgl : g.lens := by rw [hgd]; exact ⟨HLn.out.who, HLn.out.name, HLn.out.bytes⟩
                      have hpu := (putF_any es g A c w7 (HE.out.step hb7) hgl hrd).mono fun e w' h => h.er hgc
                      have HPu := Lib.hid hpu
                      have HB7 := Lib.hid hb7
                      have HH7 := Lib.hid hh7
                      have HLt7 := Lib.hid (show w4.heap.size < w7.heap.size by rw [hs7]; omega)
                      have HRd := Lib.hid hrd
                      have HGl := Lib.hid hgl
                      have HGc := Lib.hid hgc
                      have hgv : frV g A c = .agg #[.int .i64 f.kind, .int .i64 f.seq, .int .i64 f.got, .int .i64 f.stream, .int .i64 n, .int .i64 f.code, .string f.who, .string f.name, .float .f64 f.weight, .slice A f.bytes.length c] := by rw [hgd]; rfl
                      have HGv := Lib.hid hgv
                      have HGf := Lib.hid (show FrC w7 w4.heap.size g A c from FrC.of_heap hh7)
                      have HGd := Lib.hid hgd
                      rw [hgv] at HPu
                      clear hw7 hpu hb7 hh7 hs7 hrd hgl hgc hgv hgd
                      go_wp2_with fail
                      rw [show w6.setCell ⟨w4.heap.size, 4, none⟩ (.int .i64 n) = w7 from HW7.out]
                      refine HPu.out.mono ?_
                      rintro e w8 ⟨rfl, hb8⟩
                      have HB8 := Lib.hid (below_on HB7.out hb8)
                      have HGf8 := Lib.hid (HGf.out.on HLt7.out hb8)
                      have HLt8 := Lib.hid (Nat.lt_of_lt_of_le HLt7.out hb8.size)
                      have HRd8 := Lib.hid (HRd.out.step hb8)
                      have HEr8 := Lib.hid (HE.out.step HB8.out).frame
                      clear hb8 HPu c0 c1 c2 c3 c4 c5 c6 c7 c8 c9 d0 d1 d2 d3 d4 d5 d6 d7 d8 d9
                      have hk := field_keep HGf8.out HLt8.out HEr8.out (Below.refl _ _)
                      rw [HGd.out] at hk
                      simp only at hk
                      obtain ⟨c0, c1, c2, c3, c4, c5, c6, c7, c8, c9, ce⟩ := hk
                      have hcg : ∀ W, Below w8.heap.size w8 W → Calls Tryd.prog 15 #[frV g A c] W (fun e w' => e = .returned (errV (es .frame)) ∧ Below W.heap.size W w') := fun W hW =>
                        (checkF_any es g A c W (HE.out.step (below_on HB8.out hW)) HGl.out (HRd8.out.step hW)).mono fun e w' h => ⟨by have h1 := h.1; rw [if_neg (by rw [HGc.out]; simp)] at h1; exact h1, h.2⟩
                      have HCg := Lib.hid hcg
                      rw [HGv.out] at HCg
                      have hee := run_err_same
                      clear hcg
                      unfold errV at ce HCg
                      unfold errV
                      go_wp2_with fail
                      go_region_held3 (fun w' => w'.cell? ⟨w4.heap.size, 0, none⟩ = some (.int .i64 f.kind) ∧ w'.cell? ⟨w4.heap.size, 1, none⟩ = some (.int .i64 f.seq) ∧ w'.cell? ⟨w4.heap.size, 2, none⟩ = some (.int .i64 f.got) ∧ w'.cell? ⟨w4.heap.size, 3, none⟩ = some (.int .i64 f.stream) ∧ w'.cell? ⟨w4.heap.size, 4, none⟩ = some (.int .i64 n) ∧ w'.cell? ⟨w4.heap.size, 5, none⟩ = some (.int .i64 f.code) ∧ w'.cell? ⟨w4.heap.size, 6, none⟩ = some (.string f.who) ∧ w'.cell? ⟨w4.heap.size, 7, none⟩ = some (.string f.name) ∧ w'.cell? ⟨w4.heap.size, 8, none⟩ = some (.float .f64 f.weight) ∧ w'.cell? ⟨w4.heap.size, 9, none⟩ = some (.slice A f.bytes.length c) ∧ w'.cell? ⟨0, 0, none⟩ = some (.iface 147 (.pointer (some (es .frame)))))
                        (first | go_keep | (have hq := field_keep HGf8.out HLt8.out HEr8.out ((Below.refl _ _).drew.trans hb9); rw [HGd.out] at hq; exact hq))
                        (first
                          | (go_at_call 15; refine (HCg.out _ (by exact (Below.refl _ _).drew)).mono ?_; rintro e w9 ⟨rfl, hb9⟩))
                      have HB9 := Lib.hid (below_on HB8.out ((Below.refl _ _).drew.trans hb9))
                      clear hb9
                      go_wp2_with fail
                      go_ret
                      exact ⟨rfl, HB9.out⟩
                  · by_cases m5 : m = 5
                    · subst m5
                      clear m0 m1 m2 m3 m4
                      by_cases hx : ¬ f.kind = 6
                      · have hq : (f.kind != 6) = true := by simpa using hx
                        clear hx
                        go_wp2_with fail
                        go_ret
                        exact ⟨rfl, HB6.out⟩
                      · have hx0 : f.kind = 6 := Decidable.not_not.1 hx
                        have hq : (f.kind != 6) = false := by simpa using hx0
                        obtain ⟨g, hgd⟩ : ∃ g : Fr, g = { f with code := n } := ⟨_, rfl⟩
                        have hgc : checkF g = false := field_extra 4 (by omega) (by rw [hx0]; decide) (by rw [hgd]) (by rw [hgd]; exact HNn.out)
                        obtain ⟨w7, hw7⟩ : ∃ W, W = w6.setCell ⟨w4.heap.size, 5, none⟩ (.int .i64 n) := ⟨_, rfl⟩
                        have HW7 := Lib.hid hw7.symm
                        have HX := Lib.hid hx0
                        clear hx hx0
                        have hb7 : Below w.heap.size w w7 := by rw [hw7]; exact HB6.out.setCell (by exact HWle.out) _
                        have hh7 : w7.heap[w4.heap.size]? = some (.cells (frCs g A c) 25 (0, 0)) := by rw [hw7, heap_setCell_same _ _ _ _ _ _ HH6.out, hgd]; rfl
                        have hs7 : w7.heap.size = w6.heap.size := by rw [hw7]; simp
                        have hrd : RdC (· < w7.heap.size) w7 A (bvs g.bytes) := (HA.out.step hb7).bytesOf (by rw [hgd])
                        have hgl : g.lens := by rw [hgd]; exact ⟨HLn.out.who, HLn.out.name, HLn.out.bytes⟩
                        have hpu := (putF_any es g A c w7 (HE.out.step hb7) hgl hrd).mono fun e w' h => h.er hgc
                        have HPu := Lib.hid hpu
                        have HB7 := Lib.hid hb7
                        have HH7 := Lib.hid hh7
                        have HLt7 := Lib.hid (show w4.heap.size < w7.heap.size by rw [hs7]; omega)
                        have HRd := Lib.hid hrd
                        have HGl := Lib.hid hgl
                        have HGc := Lib.hid hgc
                        have hgv : frV g A c = .agg #[.int .i64 f.kind, .int .i64 f.seq, .int .i64 f.got, .int .i64 f.stream, .int .i64 f.amount, .int .i64 n, .string f.who, .string f.name, .float .f64 f.weight, .slice A f.bytes.length c] := by rw [hgd]; rfl
                        have HGv := Lib.hid hgv
                        have HGf := Lib.hid (show FrC w7 w4.heap.size g A c from FrC.of_heap hh7)
                        have HGd := Lib.hid hgd
                        rw [hgv] at HPu
                        clear hw7 hpu hb7 hh7 hs7 hrd hgl hgc hgv hgd
                        go_wp2_with fail
                        rw [show w6.setCell ⟨w4.heap.size, 5, none⟩ (.int .i64 n) = w7 from HW7.out]
                        refine HPu.out.mono ?_
                        rintro e w8 ⟨rfl, hb8⟩
                        have HB8 := Lib.hid (below_on HB7.out hb8)
                        have HGf8 := Lib.hid (HGf.out.on HLt7.out hb8)
                        have HLt8 := Lib.hid (Nat.lt_of_lt_of_le HLt7.out hb8.size)
                        have HRd8 := Lib.hid (HRd.out.step hb8)
                        have HEr8 := Lib.hid (HE.out.step HB8.out).frame
                        clear hb8 HPu c0 c1 c2 c3 c4 c5 c6 c7 c8 c9 d0 d1 d2 d3 d4 d5 d6 d7 d8 d9
                        have hk := field_keep HGf8.out HLt8.out HEr8.out (Below.refl _ _)
                        rw [HGd.out] at hk
                        simp only at hk
                        obtain ⟨c0, c1, c2, c3, c4, c5, c6, c7, c8, c9, ce⟩ := hk
                        have hcg : ∀ W, Below w8.heap.size w8 W → Calls Tryd.prog 15 #[frV g A c] W (fun e w' => e = .returned (errV (es .frame)) ∧ Below W.heap.size W w') := fun W hW =>
                          (checkF_any es g A c W (HE.out.step (below_on HB8.out hW)) HGl.out (HRd8.out.step hW)).mono fun e w' h => ⟨by have h1 := h.1; rw [if_neg (by rw [HGc.out]; simp)] at h1; exact h1, h.2⟩
                        have HCg := Lib.hid hcg
                        rw [HGv.out] at HCg
                        have hee := run_err_same
                        clear hcg
                        unfold errV at ce HCg
                        unfold errV
                        go_wp2_with fail
                        go_region_held3 (fun w' => w'.cell? ⟨w4.heap.size, 0, none⟩ = some (.int .i64 f.kind) ∧ w'.cell? ⟨w4.heap.size, 1, none⟩ = some (.int .i64 f.seq) ∧ w'.cell? ⟨w4.heap.size, 2, none⟩ = some (.int .i64 f.got) ∧ w'.cell? ⟨w4.heap.size, 3, none⟩ = some (.int .i64 f.stream) ∧ w'.cell? ⟨w4.heap.size, 4, none⟩ = some (.int .i64 f.amount) ∧ w'.cell? ⟨w4.heap.size, 5, none⟩ = some (.int .i64 n) ∧ w'.cell? ⟨w4.heap.size, 6, none⟩ = some (.string f.who) ∧ w'.cell? ⟨w4.heap.size, 7, none⟩ = some (.string f.name) ∧ w'.cell? ⟨w4.heap.size, 8, none⟩ = some (.float .f64 f.weight) ∧ w'.cell? ⟨w4.heap.size, 9, none⟩ = some (.slice A f.bytes.length c) ∧ w'.cell? ⟨0, 0, none⟩ = some (.iface 147 (.pointer (some (es .frame)))))
                          (first | go_keep | (have hq := field_keep HGf8.out HLt8.out HEr8.out ((Below.refl _ _).drew.trans hb9); rw [HGd.out] at hq; exact hq))
                          (first
                            | (go_at_call 15; refine (HCg.out _ (by exact (Below.refl _ _).drew)).mono ?_; rintro e w9 ⟨rfl, hb9⟩))
                        have HB9 := Lib.hid (below_on HB8.out ((Below.refl _ _).drew.trans hb9))
                        clear hb9
                        go_wp2_with fail
                        go_ret
                        exact ⟨rfl, HB9.out⟩
                    · by_cases hx : ¬ f.kind = 14
                      · have hq : (f.kind != 14) = true := by simpa using hx
                        clear hx
                        go_wp2_with fail
                        go_ret
                        exact ⟨rfl, HB6.out⟩
                      · have hx0 : f.kind = 14 := Decidable.not_not.1 hx
                        have hq : (f.kind != 14) = false := by simpa using hx0
                        obtain ⟨g, hgd⟩ : ∃ g : Fr, g = { f with weight := floatOfInt .f64 n } := ⟨_, rfl⟩
                        have hgc : checkF g = false := field_extra 7 (by omega) (by rw [hx0]; decide) (by rw [hgd]) (by rw [hgd]; exact float_ne n HNn.out)
                        obtain ⟨w7, hw7⟩ : ∃ W, W = w6.setCell ⟨w4.heap.size, 8, none⟩ (.float .f64 (floatOfInt .f64 n)) := ⟨_, rfl⟩
                        have HW7 := Lib.hid hw7.symm
                        have HX := Lib.hid hx0
                        clear hx hx0
                        have hb7 : Below w.heap.size w w7 := by rw [hw7]; exact HB6.out.setCell (by exact HWle.out) _
                        have hh7 : w7.heap[w4.heap.size]? = some (.cells (frCs g A c) 25 (0, 0)) := by rw [hw7, heap_setCell_same _ _ _ _ _ _ HH6.out, hgd]; rfl
                        have hs7 : w7.heap.size = w6.heap.size := by rw [hw7]; simp
                        have hrd : RdC (· < w7.heap.size) w7 A (bvs g.bytes) := (HA.out.step hb7).bytesOf (by rw [hgd])
                        have hgl : g.lens := by rw [hgd]; exact ⟨HLn.out.who, HLn.out.name, HLn.out.bytes⟩
                        have hpu := (putF_any es g A c w7 (HE.out.step hb7) hgl hrd).mono fun e w' h => h.er hgc
                        have HPu := Lib.hid hpu
                        have HB7 := Lib.hid hb7
                        have HH7 := Lib.hid hh7
                        have HLt7 := Lib.hid (show w4.heap.size < w7.heap.size by rw [hs7]; omega)
                        have HRd := Lib.hid hrd
                        have HGl := Lib.hid hgl
                        have HGc := Lib.hid hgc
                        have hgv : frV g A c = .agg #[.int .i64 f.kind, .int .i64 f.seq, .int .i64 f.got, .int .i64 f.stream, .int .i64 f.amount, .int .i64 f.code, .string f.who, .string f.name, .float .f64 (floatOfInt .f64 n), .slice A f.bytes.length c] := by rw [hgd]; rfl
                        have HGv := Lib.hid hgv
                        have HGf := Lib.hid (show FrC w7 w4.heap.size g A c from FrC.of_heap hh7)
                        have HGd := Lib.hid hgd
                        rw [hgv] at HPu
                        clear hw7 hpu hb7 hh7 hs7 hrd hgl hgc hgv hgd
                        go_wp2_with fail
                        rw [show w6.setCell ⟨w4.heap.size, 8, none⟩ (.float .f64 (floatOfInt .f64 n)) = w7 from HW7.out]
                        refine HPu.out.mono ?_
                        rintro e w8 ⟨rfl, hb8⟩
                        have HB8 := Lib.hid (below_on HB7.out hb8)
                        have HGf8 := Lib.hid (HGf.out.on HLt7.out hb8)
                        have HLt8 := Lib.hid (Nat.lt_of_lt_of_le HLt7.out hb8.size)
                        have HRd8 := Lib.hid (HRd.out.step hb8)
                        have HEr8 := Lib.hid (HE.out.step HB8.out).frame
                        clear hb8 HPu c0 c1 c2 c3 c4 c5 c6 c7 c8 c9 d0 d1 d2 d3 d4 d5 d6 d7 d8 d9
                        have hk := field_keep HGf8.out HLt8.out HEr8.out (Below.refl _ _)
                        rw [HGd.out] at hk
                        simp only at hk
                        obtain ⟨c0, c1, c2, c3, c4, c5, c6, c7, c8, c9, ce⟩ := hk
                        have hcg : ∀ W, Below w8.heap.size w8 W → Calls Tryd.prog 15 #[frV g A c] W (fun e w' => e = .returned (errV (es .frame)) ∧ Below W.heap.size W w') := fun W hW =>
                          (checkF_any es g A c W (HE.out.step (below_on HB8.out hW)) HGl.out (HRd8.out.step hW)).mono fun e w' h => ⟨by have h1 := h.1; rw [if_neg (by rw [HGc.out]; simp)] at h1; exact h1, h.2⟩
                        have HCg := Lib.hid hcg
                        rw [HGv.out] at HCg
                        have hee := run_err_same
                        clear hcg
                        unfold errV at ce HCg
                        unfold errV
                        go_wp2_with fail
                        go_region_held3 (fun w' => w'.cell? ⟨w4.heap.size, 0, none⟩ = some (.int .i64 f.kind) ∧ w'.cell? ⟨w4.heap.size, 1, none⟩ = some (.int .i64 f.seq) ∧ w'.cell? ⟨w4.heap.size, 2, none⟩ = some (.int .i64 f.got) ∧ w'.cell? ⟨w4.heap.size, 3, none⟩ = some (.int .i64 f.stream) ∧ w'.cell? ⟨w4.heap.size, 4, none⟩ = some (.int .i64 f.amount) ∧ w'.cell? ⟨w4.heap.size, 5, none⟩ = some (.int .i64 f.code) ∧ w'.cell? ⟨w4.heap.size, 6, none⟩ = some (.string f.who) ∧ w'.cell? ⟨w4.heap.size, 7, none⟩ = some (.string f.name) ∧ w'.cell? ⟨w4.heap.size, 8, none⟩ = some (.float .f64 (floatOfInt .f64 n)) ∧ w'.cell? ⟨w4.heap.size, 9, none⟩ = some (.slice A f.bytes.length c) ∧ w'.cell? ⟨0, 0, none⟩ = some (.iface 147 (.pointer (some (es .frame)))))
                          (first | go_keep | (have hq := field_keep HGf8.out HLt8.out HEr8.out ((Below.refl _ _).drew.trans hb9); rw [HGd.out] at hq; exact hq))
                          (first
                            | (go_at_call 15; refine (HCg.out _ (by exact (Below.refl _ _).drew)).mono ?_; rintro e w9 ⟨rfl, hb9⟩))
                        have HB9 := Lib.hid (below_on HB8.out ((Below.refl _ _).drew.trans hb9))
                        clear hb9
                        go_wp2_with fail
                        go_ret
                        exact ⟨rfl, HB9.out⟩
end Go.Proofs.YtpekagkhgegefaaDoor
