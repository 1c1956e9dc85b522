/- Walk of package hash: take. -/
import Derived.Test.YtpekagkhgegefaaDoorHp
set_option linter.unusedVariables false
set_option linter.unusedSimpArgs false
set_option linter.unnecessarySimpa false
namespace Go.Proofs.YtpekagkhgegefaaDoor
open Go.RowKit

/-! ### All whole pieces -/
def whole (v : V8) (r : Bs) : V8 × Bs := absorb (r.length / 64) v r
theorem whole_few (v : V8) (r : Bs) (h : r.length < 64) : whole v r = (v, r) := by
  unfold whole
  rw [Nat.div_eq_of_lt h]
  rfl
theorem whole_more (v : V8) (r : Bs) (h : 64 ≤ r.length) : whole v r = whole (pieceV v (natBytes (r.take 64))) (r.drop 64) := by
  unfold whole
  have e : r.length / 64 = (r.drop 64).length / 64 + 1 := by rw [List.length_drop]; omega
  rw [e]
  show (if 64 ≤ r.length then _ else _) = _
  rw [if_pos h]
  rfl
theorem whole_ok : ∀ (n : Nat) (v : V8) (r : Bs), r.length ≤ n → v.ok → (whole v r).1.ok ∧ (whole v r).2.length < 64
  | n, v, r, hn, hv => by
    rcases Nat.lt_or_ge r.length 64 with h | h
    · rw [whole_few v r h]; exact ⟨hv, h⟩
    · rw [whole_more v r h]
      match n with
      | 0 => omega
      | n + 1 => exact whole_ok n _ _ (by rw [List.length_drop]; omega) (pieceV_ok _ _)
theorem whole_append : ∀ (n : Nat) (v : V8) (r x : Bs), r.length ≤ n → whole v (r ++ x) = whole (whole v r).1 ((whole v r).2 ++ x)
  | n, v, r, x, hn => by
    rcases Nat.lt_or_ge r.length 64 with h | h
    · rw [whole_few v r h]
    · match n with
      | 0 => omega
      | n + 1 =>
        rw [whole_more v r h, whole_more v (r ++ x) (by rw [List.length_append]; omega), List.take_append_of_le_length h, List.drop_append_of_le_length h]
        exact whole_append n _ _ x (by rw [List.length_drop]; omega)
theorem whole_rest_length : ∀ (n : Nat) (v : V8) (r : Bs), r.length ≤ n → (whole v r).2.length = r.length % 64
  | n, v, r, hn => by
    rcases Nat.lt_or_ge r.length 64 with h | h
    · rw [whole_few v r h]; exact (Nat.mod_eq_of_lt h).symm
    · match n with
      | 0 => omega
      | n + 1 =>
        rw [whole_more v r h, whole_rest_length n _ _ (by rw [List.length_drop]; omega), List.length_drop]
        omega
theorem sha_whole (b : Bs) : sha b = (whole V8.first (b ++ padding b.length)).1.list.flatMap wordBytes := rfl

/-- A digest that has taken v and r, in a block of its own. -/
def StOf (w : World) (base : Nat) (X : Nat → Prop) (g : Nat) (v : V8) (r : Bs) (n : Nat) : Prop :=
  base ≤ g ∧ ∃ rv, StAt w g v rv n ∧ OwnAt w base 5 rv (bvs r) ∧ rv.ownBlock ≠ some g ∧ ∀ k, X k → k < w.heap.size ∧ k ≠ g ∧ rv.ownBlock ≠ some k
/-- .. all of b. -/
def StIs (w : World) (base : Nat) (X : Nat → Prop) (g : Nat) (b : Bs) : Prop := StOf w base X g (whole V8.first b).1 (whole V8.first b).2 b.length
/-- The blocks of X are as they were. -/
def Same (X : Nat → Prop) (w w' : World) : Prop := ∀ k, X k → w'.heap[k]? = w.heap[k]?
def TakeP (w : World) (base : Nat) (X : Nat → Prop) (g : Nat) (b : Bs) (e : Ending) (w' : World) : Prop := e = .returned (.tuple #[]) ∧ StIs w' base X g b ∧ Below base w w' ∧ Same X w w'
theorem StOf.lt {w : World} {base : Nat} {X : Nat → Prop} {g : Nat} {v : V8} {r : Bs} {n : Nat} (h : StOf w base X g v r n) : g < w.heap.size := by
  obtain ⟨_, rv, h, _⟩ := h
  exact (Array.getElem?_eq_some_iff.1 h).1
theorem StOf.below {w w' : World} {base : Nat} {X : Nat → Prop} {g : Nat} {v : V8} {r : Bs} {n : Nat} (h : StOf w base X g v r n) (hb : Below w.heap.size w w') : StOf w' base X g v r n := by
  have hl := h.lt
  obtain ⟨h1, rv, h2, h3, h4, h5⟩ := h
  exact ⟨h1, rv, h2.move (hb.block g hl), h3.below hb, h4, fun k hk => ⟨Nat.lt_of_lt_of_le (h5 k hk).1 hb.size, (h5 k hk).2⟩⟩
/-- Other blocks are to be left alone: new ones, besides. -/
theorem StOf.other {w : World} {base : Nat} {X Y : Nat → Prop} {g : Nat} {v : V8} {r : Bs} {n : Nat} (h : StOf w base X g v r n) (w0 : World) (hb : Below w.heap.size w w0) (hY : ∀ k, Y k → X k ∨ w.heap.size ≤ k ∧ k < w0.heap.size) : StOf w0 base Y g v r n := by
  have hl := h.lt
  obtain ⟨h1, rv, h2, h3, h4, h5⟩ := h
  refine ⟨h1, rv, h2.move (hb.block g hl), h3.below hb, h4, fun k hk => ?_⟩
  rcases hY k hk with hx | ⟨hx, hx2⟩
  · exact ⟨Nat.lt_of_lt_of_le (h5 k hx).1 hb.size, (h5 k hx).2⟩
  · refine ⟨hx2, by omega, fun e => ?_⟩
    have h6 := (h3.lt k e).2
    omega
/-- A store into a block that is left alone. -/
theorem StOf.store {w : World} {base : Nat} {X : Nat → Prop} {g : Nat} {v : V8} {r : Bs} {n : Nat} (h : StOf w base X g v r n) (T i : Nat) (u : Value) (hT : X T) : StOf (w.setCell ⟨T, i, none⟩ u) base X g v r n := by
  obtain ⟨h1, rv, h2, h3, h4, h5⟩ := h
  obtain ⟨q1, q2, q3⟩ := h5 T hT
  exact ⟨h1, rv, h2.move (heap_setCell_other _ _ _ _ (fun e => q2 e.symm)), h3.grown (row := some T) (by
    refine ⟨rfl, rfl, rfl, by simp [World.setCell], fun k hk hne => heap_setCell_other _ _ _ _ (fun e => hne (congrArg some e))⟩) (.inr q3), h4, fun k hk => ⟨by simpa [World.setCell] using (h5 k hk).1, (h5 k hk).2⟩⟩
theorem StOf.drewN {w : World} {base : Nat} {X : Nat → Prop} {g : Nat} {v : V8} {r : Bs} {n : Nat} (h : StOf w base X g v r n) (k : Nat) : StOf (w.drewN k) base X g v r n := h

/-- The length of the rest, out of the state. -/
def restLen (w : World) (g : Nat) : Nat := match w.cell? ⟨g, 8, none⟩ with | some (.slice _ n _) => n | _ => 0
theorem bvs_take (b : Bs) (k : Nat) : bvs (b.take k) = (bvs b).take k := List.map_take
theorem bvs_drop (b : Bs) (k : Nat) : bvs (b.drop k) = (bvs b).drop k := List.map_drop
theorem bv_one (b : Bs) : ∀ v ∈ bvs b, v.oneCell' = true := bvs_one b

def TakeOf (w : World) (base : Nat) (X : Nat → Prop) (g : Nat) (v : V8) (r : Bs) (n : Nat) (e : Ending) (w' : World) : Prop := e = .returned (.tuple #[]) ∧ StOf w' base X g v r n ∧ Below base w w' ∧ Same X w w'
theorem infoU8h : (Tryd.prog.info? 5).map (fun i => (i.zero, i.size, i.bytes)) = some (some (.int .u8 0), 1, 1) := by kernel_rfl
theorem setCell_ne (w : World) (g i k : Nat) (v : Value) (h : k ≠ g) : (w.setCell ⟨g, i, none⟩ v).heap[k]? = w.heap[k]? := heap_setCell_other _ _ _ _ h
theorem StAt.setRest {w : World} {g : Nat} {v : V8} {rest rest' : Value} {n : Nat} (h : StAt w g v rest n) : StAt (w.setCell ⟨g, 8, none⟩ rest') g v rest' n := by
  unfold StAt
  rw [heap_setCell_same w g 8 _ 141 rest' h]
  rfl
theorem StAt.setLen {w : World} {g : Nat} {v : V8} {rest : Value} {n : Nat} (h : StAt w g v rest n) (m : Nat) : StAt (w.setCell ⟨g, 9, none⟩ (.int .u64 (m : Int))) g v rest m := by
  unfold StAt
  rw [heap_setCell_same w g 9 _ 141 _ h]
  rfl
theorem ownBlock_cut (A : Option Addr) (n c k n' c' : Nat) : (Value.slice (if c = k then A else A.map (·.add k)) n' c').ownBlock = (Value.slice A n c).ownBlock := by
  cases A with
  | none => split <;> rfl
  | some ad => split <;> simp [Value.ownBlock, add_block]
theorem restLen_set (w : World) (g : Nat) (A : Option Addr) (n c : Nat) (old : Value) (h : w.cell? ⟨g, 8, none⟩ = some old) : restLen (w.setCell ⟨g, 8, none⟩ (.slice A n c)) g = n := by
  unfold restLen
  rw [World.cell?_setCell_same _ _ _ h]
theorem map_add64 (A : Option Addr) : Option.map (fun x : Addr => (⟨x.block, x.off + 64, none⟩ : Addr)) A = A.map (·.add 64) := rfl
set_option maxRecDepth 8000 in
set_option maxHeartbeats 2000000 in
theorem take_of (w : World) (base : Nat) (X : Nat → Prop) (g : Nat) (v : V8) (r x : Bs) (n : Nat) (ok : Nat → Prop) (A : Option Addr) (c : Nat) (hbase : base ≤ w.heap.size) (hv : v.ok) (hr : r.length < 64) (hSt : StOf w base X g v r n) (hRo : RoundAt w) (hlt : 19 < base) (hR : RdC ok w A (bvs x)) (hok : ∀ k, ok k → k ≠ g) (hl : n + x.length ≤ 70368744177664) :
    Calls Tryd.prog 77 #[.pointer (some ⟨g, 0, none⟩), .slice A x.length c] w (TakeOf w base X g (whole v (r ++ x)).1 (whole v (r ++ x)).2 (n + x.length)) := by
  obtain ⟨hbg, rv, hst, how, hne, hx⟩ := hSt
  have HX := Lib.hid hx
  clear hx
  obtain ⟨c0, c1, c2, c3, c4, c5, c6, c7, c8, c9, cf⟩ := hst.cells
  obtain ⟨i0, hi, hz0, hz1, hz2⟩ := info_parts infoU8h
  have k1 : IntKind.u64.wrap ((n : Int) + (x.length : Int)) = (n : Int) + (x.length : Int) := IntWalk.u64_in _ (by omega)
  have k2 : IntKind.u64.wrap (x.length : Int) = (x.length : Int) := IntWalk.u64_in _ (by omega)
  have hgw : g < w.heap.size := (Array.getElem?_eq_some_iff.1 hst).1
  generalize hy : r ++ x = y
  have HV := Lib.hid hv
  have HR := Lib.hid hR
  have HOk := Lib.hid hok
  have HSt := Lib.hid hst
  have HOw := Lib.hid how
  have HNe := Lib.hid hne
  have HRo := Lib.hid hRo
  have HY := Lib.hid hy
  clear hy hv hR hok hst how hne hRo c0 c1 c2 c3 c4 c5 c6 c7
  go_enter Tryd.func77, Tryd.ntmps77
  go_wp2_with (
    at_builtin
    refine wpList_appOwnAt base _ _ 23 23 5 i0 (.int .u8 0) 1 rfl (by rfl) Tryd.underlying23 hi hz0 hz1 hz2 (by rfl) _ (bvs r) (by rfl) (HOw.out.grown (only_setCell (World.grownBy.refl _ _) 9 _) (.inr HNe.out)) _ x.length (bvs x) (by rfl) (Src.ofRd Tryd.underlying23 (by simp) (HR.out.move fun k hk => setCell_ne _ _ _ _ _ (HOk.out k hk)) (bv_one x)) (by simp; omega) (by simp; omega) (by simp; omega) ?_
    intro v1 w1 how1 hgr1
    rw [← bvs_append, HY.out] at how1
    obtain ⟨A1, m1, rfl, hm1, hm2⟩ := how1.slice
    rw [bvs_length] at *
    have hst1 := (StAt.setLen HSt.out (n + x.length)).move (hgr1.by_.block g (by simp; exact hgw) (fun e => HNe.out e.symm))
    have hne1 := hgr1.ne (b := g) (fun e => HNe.out e.symm) (by simp; exact hgw)
    obtain ⟨c0, c1, c2, c3, c4, c5, c6, c7, c8, c9, cf⟩ := hst1.cells
    have HOw1 := Lib.hid how1
    have HSt1 := Lib.hid hst1
    have HNe1 := Lib.hid hne1
    have HGr1 := Lib.hid hgr1
    clear how1 hst1 hne1 hgr1 c0 c1 c2 c3 c4 c5 c6 c7)
  have hx1 : ∀ k, X k → k < (w1.setCell ⟨g, 8, none⟩ (.slice A1 y.length m1)).heap.size ∧ k ≠ g ∧ (Value.slice A1 y.length m1).ownBlock ≠ some k := fun k hk => by
    obtain ⟨q1, q2, q3⟩ := HX.out k hk
    exact ⟨by have := HGr1.out.by_.size; simp at this ⊢; omega, q2, fun e => HGr1.out.ne (b := k) (fun e => q3 e.symm) (by simp; exact q1) e.symm⟩
  have hs1 : Same X w (w1.setCell ⟨g, 8, none⟩ (.slice A1 y.length m1)) := fun k hk => by
    obtain ⟨q1, q2, q3⟩ := HX.out k hk
    rw [setCell_ne _ _ _ _ _ q2, HGr1.out.by_.block k (by simp; exact q1) (fun e => q3 e.symm), setCell_ne _ _ _ _ _ q2]
  have hst2 : StOf (w1.setCell ⟨g, 8, none⟩ (.slice A1 y.length m1)) base X g v y (n + x.length) :=
    ⟨hbg, .slice A1 y.length m1, HSt1.out.setRest, HOw1.out.grown (only_setCell (World.grownBy.refl _ _) 8 _) (.inr fun e => HNe1.out e.symm), fun e => HNe1.out e.symm, hx1⟩
  have hb2 : Below base w (w1.setCell ⟨g, 8, none⟩ (.slice A1 y.length m1)) :=
    below_set (HGr1.out.below (below_set (Below.refl _ _) _ _ _ hbg) (by simp; exact hbase) (fun k hk => (HOw.out.lt k hk).1)) _ _ _ hbg
  generalize n + x.length = N at *
  have HSt2 := Lib.hid hst2
  have HB2 := Lib.hid hb2
  have HS1 := Lib.hid hs1
  clear hst2 hb2 hx1 hs1
  go_loopw [23] (fun _ wq => ∃ v' y', StOf wq base X g v' y' N ∧ v'.ok ∧ whole v' y' = whole v y ∧ Below base w wq ∧ Same X w wq) (fun _ wq => restLen wq g)
  case atStart => exact ⟨v, y, HSt2.out, HV.out, rfl, HB2.out, HS1.out⟩
  case round =>
    obtain ⟨v', y', hst, hv', hwh, hbel, hsame⟩ := hrel
    obtain ⟨_, rv', hst, how, hne, hx3⟩ := hst
    have HX3 := Lib.hid hx3
    have HS3 := Lib.hid hsame
    clear hx3 hsame
    obtain ⟨A', m', rfl, hm1', hm2'⟩ := how.slice
    rw [bvs_length] at *
    obtain ⟨d0, d1, d2, d3, d4, d5, d6, d7, d8, d9, df⟩ := hst.cells
    have hgr : g < wr.heap.size := (Array.getElem?_eq_some_iff.1 hst).1
    have hRy := how.reads
    unfold maxLen at hm2'
    have HOw3 := Lib.hid how
    have HSt3 := Lib.hid hst
    have HNe3 := Lib.hid hne
    have HWh := Lib.hid hwh
    have HBel := Lib.hid hbel
    have HV' := Lib.hid hv'
    have HRy := Lib.hid hRy
    clear how hst hne hwh hbel hv' hRy d0 d1 d2 d3 d4 d5 d6 d7
    by_cases h64 : 64 ≤ y'.length
    · have j1 : (64 : Int) ≤ (y'.length : Int) := by omega
      go_wp2_with fail
      have hp := piece_any wr v' g A' m' (y'.take 64) (.slice A' y'.length m') N HV'.out hgr HSt3.out (HRo.out.below HBel.out hlt) (by omega) (by rw [List.length_take]; omega) (by rw [bvs_take]; exact (HRy.out.take 64).mono (fun k hk => hk.2))
      refine hp.mono ?_
      clear hp
      rintro e w2 ⟨rfl, hst4, hg4⟩
      have how4 := HOw3.out.grown hg4 (.inr HNe3.out)
      have hcut := how4.cut 64 (by rw [bvs_length]; exact h64)
      rw [← bvs_drop] at hcut
      obtain ⟨d0, d1, d2, d3, d4, d5, d6, d7, d8', d9', df'⟩ := hst4.cells
      have HSt4 := Lib.hid hst4
      have HG4 := Lib.hid hg4
      have HOw4 := Lib.hid how4
      have HCut := Lib.hid hcut
      clear hst4 hg4 how4 hcut d0 d1 d2 d3 d4 d5 d6 d7
      go_wp2_with fail
      rw [map_add64]
      have hne5 : (Value.slice (if m' = 64 then A' else A'.map (·.add 64)) (y'.length - 64) (m' - 64)).ownBlock ≠ some g := by
        rw [ownBlock_cut A' y'.length m' 64]
        exact HNe3.out
      refine ⟨⟨pieceV v' (natBytes (y'.take 64)), y'.drop 64, ⟨hbg, _, HSt4.out.setRest, HCut.out.grown (only_setCell (World.grownBy.refl _ _) 8 _) (.inr hne5), hne5, fun k hk => ?_⟩, pieceV_ok _ _, ?_, ?_, fun k hk => ?_⟩, ?_⟩
      · obtain ⟨q1, q2, q3⟩ := HX3.out k hk
        refine ⟨by have := HG4.out.size; simp; omega, q2, ?_⟩
        rw [ownBlock_cut A' y'.length m' 64]
        exact q3
      · rw [← HWh.out, whole_more v' y' h64]
      · exact below_set (below_grown HBel.out (Nat.le_trans hbase HBel.out.size) HG4.out (fun k hk => by injection hk with hk; omega)) _ _ _ hbg
      · obtain ⟨q1, q2, q3⟩ := HX3.out k hk
        rw [setCell_ne _ _ _ _ _ q2, HG4.out.block k q1 (fun e => q2 (by injection e)), HS3.out k hk]
      · rw [restLen_set _ _ _ _ _ _ d8']
        unfold restLen
        rw [d8]
        show y'.length - 64 < y'.length
        omega
    · have j1 : ¬ (64 : Int) ≤ (y'.length : Int) := by omega
      have hw := whole_few v' y' (by omega)
      have HW := Lib.hid hw
      clear hw
      go_wp2_with fail
      go_end0
      exact ⟨rfl, by rw [← HWh.out, HW.out]; exact ⟨hbg, _, HSt3.out, HOw3.out, HNe3.out, HX3.out⟩, HBel.out, HS3.out⟩
theorem take_any (w : World) (base : Nat) (X : Nat → Prop) (g : Nat) (b x : Bs) (ok : Nat → Prop) (A : Option Addr) (c : Nat) (hbase : base ≤ w.heap.size) (hSt : StIs w base X g b) (hRo : RoundAt w) (hlt : 19 < base) (hR : RdC ok w A (bvs x)) (hok : ∀ k, ok k → k ≠ g) (hl : b.length + x.length ≤ 70368744177664) :
    Calls Tryd.prog 77 #[.pointer (some ⟨g, 0, none⟩), .slice A x.length c] w (TakeP w base X g (b ++ x)) := by
  obtain ⟨h1, h2⟩ := whole_ok b.length V8.first b (Nat.le_refl _) first_ok
  refine (take_of w base X g _ _ x b.length ok A c hbase h1 h2 hSt hRo hlt hR hok hl).mono ?_
  rintro e w' ⟨he, hs, hb, hx⟩
  refine ⟨he, ?_, hb, hx⟩
  unfold StIs
  rw [whole_append b.length V8.first b x (Nat.le_refl _), List.length_append]
  exact hs
/-- take([]byte{y}). -/
theorem take_one (W : World) (base : Nat) (X : Nat → Prop) (g : Nat) (b : Bs) (y : UInt8) (H : Nat) (hH : W.heap.size = H) (hbase : base ≤ W.heap.size) (hSt : StIs W base X g b) (hRo : RoundAt W) (hlt : 19 < base) (hl : b.length + 1 ≤ 70368744177664) :
    Calls Tryd.prog 77 #[.pointer (some ⟨g, 0, none⟩), .slice (some ⟨H, 0, none⟩) 1 1] (W.alloc (.cells #[bv y] 5)) (TakeP W base X g (b ++ [y])) := by
  subst hH
  have hb : Below W.heap.size W (W.alloc (.cells #[bv y] 5)) := (Below.refl _ _).alloc (Nat.le_refl _) _
  have hx : ∀ k, X k → k < W.heap.size := fun k hk => by
    obtain ⟨_, rv, _, _, _, h5⟩ := hSt
    exact (h5 k hk).1
  refine (take_any (W.alloc (.cells #[bv y] 5)) base X g b [y] (fun k => k = W.heap.size) (some ⟨W.heap.size, 0, none⟩) 1 (by simp; omega) (StOf.below hSt hb) (hRo.below hb hRo.lt) hlt (RdC.new W #[bv y] _) (fun k hk => ?_) hl).mono ?_
  · have := StOf.lt hSt
    omega
  · rintro e w' ⟨he, hs, hb2, hx2⟩
    exact ⟨he, hs, ((Below.refl _ _).alloc hbase _).trans hb2, fun k hk => (hx2 k hk).trans (hb.block k (hx k hk))⟩
end Go.Proofs.YtpekagkhgegefaaDoor
