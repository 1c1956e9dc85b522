/- Walks of package hash: begin, end. -/
import Derived.Test.YtipgimmgjdgdeaaDoorHp
set_option linter.unusedVariables false
set_option linter.unusedSimpArgs false
set_option linter.unnecessarySimpa false
namespace Go.Proofs.YtipgimmgjdgdeaaDoor
open Go.RowKit

/-! ### All whole pieces -/
def whole (v : V8) (r : Bs) : V8 × Bs := absorb (r.length / 64) v r
theorem whole_few (v : V8) (r : Bs) (h : r.length < 64) : whole v r = (v, r) := by
  unfold whole
  rw [Nat.div_eq_of_lt h]
  rfl
theorem whole_more (v : V8) (r : Bs) (h : 64 ≤ r.length) : whole v r = whole (pieceV v (natBytes (r.take 64))) (r.drop 64) := by
  unfold whole
  have e : r.length / 64 = (r.drop 64).length / 64 + 1 := by rw [List.length_drop]; omega
  rw [e]
  show (if 64 ≤ r.length then _ else _) = _
  rw [if_pos h]
  rfl
theorem whole_ok : ∀ (n : Nat) (v : V8) (r : Bs), r.length ≤ n → v.ok → (whole v r).1.ok ∧ (whole v r).2.length < 64
  | n, v, r, hn, hv => by
    rcases Nat.lt_or_ge r.length 64 with h | h
    · rw [whole_few v r h]; exact ⟨hv, h⟩
    · rw [whole_more v r h]
      match n with
      | 0 => omega
      | n + 1 => exact whole_ok n _ _ (by rw [List.length_drop]; omega) (pieceV_ok _ _)
theorem whole_append : ∀ (n : Nat) (v : V8) (r x : Bs), r.length ≤ n → whole v (r ++ x) = whole (whole v r).1 ((whole v r).2 ++ x)
  | n, v, r, x, hn => by
    rcases Nat.lt_or_ge r.length 64 with h | h
    · rw [whole_few v r h]
    · match n with
      | 0 => omega
      | n + 1 =>
        rw [whole_more v r h, whole_more v (r ++ x) (by rw [List.length_append]; omega), List.take_append_of_le_length h, List.drop_append_of_le_length h]
        exact whole_append n _ _ x (by rw [List.length_drop]; omega)
theorem whole_rest_length : ∀ (n : Nat) (v : V8) (r : Bs), r.length ≤ n → (whole v r).2.length = r.length % 64
  | n, v, r, hn => by
    rcases Nat.lt_or_ge r.length 64 with h | h
    · rw [whole_few v r h]; exact (Nat.mod_eq_of_lt h).symm
    · match n with
      | 0 => omega
      | n + 1 =>
        rw [whole_more v r h, whole_rest_length n _ _ (by rw [List.length_drop]; omega), List.length_drop]
        omega
theorem sha_whole (b : Bs) : sha b = (whole V8.first (b ++ padding b.length)).1.list.flatMap wordBytes := rfl

/-- A digest that has taken v and r, in a block of its own. -/
def StOf (w : World) (base : Nat) (X : Nat → Prop) (g : Nat) (v : V8) (r : Bs) (n : Nat) : Prop :=
  base ≤ g ∧ ∃ rv, StAt w g v rv n ∧ OwnAt w base 5 rv (bvs r) ∧ rv.ownBlock ≠ some g ∧ ∀ k, X k → k < w.heap.size ∧ k ≠ g ∧ rv.ownBlock ≠ some k
/-- .. all of b. -/
def StIs (w : World) (base : Nat) (X : Nat → Prop) (g : Nat) (b : Bs) : Prop := StOf w base X g (whole V8.first b).1 (whole V8.first b).2 b.length
/-- The blocks of X are as they were. -/
def Same (X : Nat → Prop) (w w' : World) : Prop := ∀ k, X k → w'.heap[k]? = w.heap[k]?
def TakeP (w : World) (base : Nat) (X : Nat → Prop) (g : Nat) (b : Bs) (e : Ending) (w' : World) : Prop := e = .returned (.tuple #[]) ∧ StIs w' base X g b ∧ Below base w w' ∧ Same X w w'
theorem StOf.lt {w : World} {base : Nat} {X : Nat → Prop} {g : Nat} {v : V8} {r : Bs} {n : Nat} (h : StOf w base X g v r n) : g < w.heap.size := by
  obtain ⟨_, rv, h, _⟩ := h
  exact (Array.getElem?_eq_some_iff.1 h).1
theorem StOf.below {w w' : World} {base : Nat} {X : Nat → Prop} {g : Nat} {v : V8} {r : Bs} {n : Nat} (h : StOf w base X g v r n) (hb : Below w.heap.size w w') : StOf w' base X g v r n := by
  have hl := h.lt
  obtain ⟨h1, rv, h2, h3, h4, h5⟩ := h
  exact ⟨h1, rv, h2.move (hb.block g hl), h3.below hb, h4, fun k hk => ⟨Nat.lt_of_lt_of_le (h5 k hk).1 hb.size, (h5 k hk).2⟩⟩
/-- Other blocks are to be left alone: new ones, besides. -/
theorem StOf.other {w : World} {base : Nat} {X Y : Nat → Prop} {g : Nat} {v : V8} {r : Bs} {n : Nat} (h : StOf w base X g v r n) (w0 : World) (hb : Below w.heap.size w w0) (hY : ∀ k, Y k → X k ∨ w.heap.size ≤ k ∧ k < w0.heap.size) : StOf w0 base Y g v r n := by
  have hl := h.lt
  obtain ⟨h1, rv, h2, h3, h4, h5⟩ := h
  refine ⟨h1, rv, h2.move (hb.block g hl), h3.below hb, h4, fun k hk => ?_⟩
  rcases hY k hk with hx | ⟨hx, hx2⟩
  · exact ⟨Nat.lt_of_lt_of_le (h5 k hx).1 hb.size, (h5 k hx).2⟩
  · refine ⟨hx2, by omega, fun e => ?_⟩
    have h6 := (h3.lt k e).2
    omega
/-- A store into a block that is left alone. -/
theorem StOf.store {w : World} {base : Nat} {X : Nat → Prop} {g : Nat} {v : V8} {r : Bs} {n : Nat} (h : StOf w base X g v r n) (T i : Nat) (u : Value) (hT : X T) : StOf (w.setCell ⟨T, i, none⟩ u) base X g v r n := by
  obtain ⟨h1, rv, h2, h3, h4, h5⟩ := h
  obtain ⟨q1, q2, q3⟩ := h5 T hT
  exact ⟨h1, rv, h2.move (heap_setCell_other _ _ _ _ (fun e => q2 e.symm)), h3.grown (row := some T) (by
    refine ⟨rfl, rfl, rfl, by simp [World.setCell], fun k hk hne => heap_setCell_other _ _ _ _ (fun e => hne (congrArg some e))⟩) (.inr q3), h4, fun k hk => ⟨by simpa [World.setCell] using (h5 k hk).1, (h5 k hk).2⟩⟩
theorem StOf.drewN {w : World} {base : Nat} {X : Nat → Prop} {g : Nat} {v : V8} {r : Bs} {n : Nat} (h : StOf w base X g v r n) (k : Nat) : StOf (w.drewN k) base X g v r n := h

/-- The length of the rest, out of the state. -/
def restLen (w : World) (g : Nat) : Nat := match w.cell? ⟨g, 8, none⟩ with | some (.slice _ n _) => n | _ => 0
theorem bvs_take (b : Bs) (k : Nat) : bvs (b.take k) = (bvs b).take k := List.map_take
theorem bvs_drop (b : Bs) (k : Nat) : bvs (b.drop k) = (bvs b).drop k := List.map_drop
theorem bv_one (b : Bs) : ∀ v ∈ bvs b, v.oneCell' = true := bvs_one b

def TakeOf (w : World) (base : Nat) (X : Nat → Prop) (g : Nat) (v : V8) (r : Bs) (n : Nat) (e : Ending) (w' : World) : Prop := e = .returned (.tuple #[]) ∧ StOf w' base X g v r n ∧ Below base w w' ∧ Same X w w'
theorem infoU8h : (Tryd.prog.info? 5).map (fun i => (i.zero, i.size, i.bytes)) = some (some (.int .u8 0), 1, 1) := by kernel_rfl
theorem setCell_ne (w : World) (g i k : Nat) (v : Value) (h : k ≠ g) : (w.setCell ⟨g, i, none⟩ v).heap[k]? = w.heap[k]? := heap_setCell_other _ _ _ _ h
theorem StAt.setRest {w : World} {g : Nat} {v : V8} {rest rest' : Value} {n : Nat} (h : StAt w g v rest n) : StAt (w.setCell ⟨g, 8, none⟩ rest') g v rest' n := by
  unfold StAt
  rw [heap_setCell_same w g 8 _ 155 rest' h]
  rfl
theorem StAt.setLen {w : World} {g : Nat} {v : V8} {rest : Value} {n : Nat} (h : StAt w g v rest n) (m : Nat) : StAt (w.setCell ⟨g, 9, none⟩ (.int .u64 (m : Int))) g v rest m := by
  unfold StAt
  rw [heap_setCell_same w g 9 _ 155 _ h]
  rfl
theorem ownBlock_cut (A : Option Addr) (n c k n' c' : Nat) : (Value.slice (if c = k then A else A.map (·.add k)) n' c').ownBlock = (Value.slice A n c).ownBlock := by
  cases A with
  | none => split <;> rfl
  | some ad => split <;> simp [Value.ownBlock, add_block]
theorem restLen_set (w : World) (g : Nat) (A : Option Addr) (n c : Nat) (old : Value) (h : w.cell? ⟨g, 8, none⟩ = some old) : restLen (w.setCell ⟨g, 8, none⟩ (.slice A n c)) g = n := by
  unfold restLen
  rw [World.cell?_setCell_same _ _ _ h]
theorem map_add64 (A : Option Addr) : Option.map (fun x : Addr => (⟨x.block, x.off + 64, none⟩ : Addr)) A = A.map (·.add 64) := rfl
set_option maxRecDepth 8000 in
set_option maxHeartbeats 2000000 in
theorem take_of (w : World) (base : Nat) (X : Nat → Prop) (g : Nat) (v : V8) (r x : Bs) (n : Nat) (ok : Nat → Prop) (A : Option Addr) (c : Nat) (hbase : base ≤ w.heap.size) (hv : v.ok) (hr : r.length < 64) (hSt : StOf w base X g v r n) (hRo : RoundAt w) (hlt : 19 < base) (hR : RdC ok w A (bvs x)) (hok : ∀ k, ok k → k ≠ g) (hl : n + x.length ≤ 70368744177664) :
    Calls Tryd.prog 89 #[.pointer (some ⟨g, 0, none⟩), .slice A x.length c] w (TakeOf w base X g (whole v (r ++ x)).1 (whole v (r ++ x)).2 (n + x.length)) := by
  obtain ⟨hbg, rv, hst, how, hne, hx⟩ := hSt
  have HX := Lib.hid hx
  clear hx
  obtain ⟨c0, c1, c2, c3, c4, c5, c6, c7, c8, c9, cf⟩ := hst.cells
  obtain ⟨i0, hi, hz0, hz1, hz2⟩ := info_parts infoU8h
  have k1 : IntKind.u64.wrap ((n : Int) + (x.length : Int)) = (n : Int) + (x.length : Int) := IntWalk.u64_in _ (by omega)
  have k2 : IntKind.u64.wrap (x.length : Int) = (x.length : Int) := IntWalk.u64_in _ (by omega)
  have hgw : g < w.heap.size := (Array.getElem?_eq_some_iff.1 hst).1
  generalize hy : r ++ x = y
  have HV := Lib.hid hv
  have HR := Lib.hid hR
  have HOk := Lib.hid hok
  have HSt := Lib.hid hst
  have HOw := Lib.hid how
  have HNe := Lib.hid hne
  have HRo := Lib.hid hRo
  have HY := Lib.hid hy
  clear hy hv hR hok hst how hne hRo c0 c1 c2 c3 c4 c5 c6 c7
  go_enter Tryd.func89, Tryd.ntmps89
  go_wp2_with (
    at_builtin
    refine wpList_appOwnAt base _ _ 31 31 5 i0 (.int .u8 0) 1 rfl (by rfl) Tryd.underlying31 hi hz0 hz1 hz2 (by rfl) _ (bvs r) (by rfl) (HOw.out.grown (only_setCell (World.grownBy.refl _ _) 9 _) (.inr HNe.out)) _ x.length (bvs x) (by rfl) (Src.ofRd Tryd.underlying31 (by simp) (HR.out.move fun k hk => setCell_ne _ _ _ _ _ (HOk.out k hk)) (bv_one x)) (by simp; omega) (by simp; omega) (by simp; omega) ?_
    intro v1 w1 how1 hgr1
    rw [← bvs_append, HY.out] at how1
    obtain ⟨A1, m1, rfl, hm1, hm2⟩ := how1.slice
    rw [bvs_length] at *
    have hst1 := (StAt.setLen HSt.out (n + x.length)).move (hgr1.by_.block g (by simp; exact hgw) (fun e => HNe.out e.symm))
    have hne1 := hgr1.ne (b := g) (fun e => HNe.out e.symm) (by simp; exact hgw)
    obtain ⟨c0, c1, c2, c3, c4, c5, c6, c7, c8, c9, cf⟩ := hst1.cells
    have HOw1 := Lib.hid how1
    have HSt1 := Lib.hid hst1
    have HNe1 := Lib.hid hne1
    have HGr1 := Lib.hid hgr1
    clear how1 hst1 hne1 hgr1 c0 c1 c2 c3 c4 c5 c6 c7)
  have hx1 : ∀ k, X k → k < (w1.setCell ⟨g, 8, none⟩ (.slice A1 y.length m1)).heap.size ∧ k ≠ g ∧ (Value.slice A1 y.length m1).ownBlock ≠ some k := fun k hk => by
    obtain ⟨q1, q2, q3⟩ := HX.out k hk
    exact ⟨by have := HGr1.out.by_.size; simp at this ⊢; omega, q2, fun e => HGr1.out.ne (b := k) (fun e => q3 e.symm) (by simp; exact q1) e.symm⟩
  have hs1 : Same X w (w1.setCell ⟨g, 8, none⟩ (.slice A1 y.length m1)) := fun k hk => by
    obtain ⟨q1, q2, q3⟩ := HX.out k hk
    rw [setCell_ne _ _ _ _ _ q2, HGr1.out.by_.block k (by simp; exact q1) (fun e => q3 e.symm), setCell_ne _ _ _ _ _ q2]
  have hst2 : StOf (w1.setCell ⟨g, 8, none⟩ (.slice A1 y.length m1)) base X g v y (n + x.length) :=
    ⟨hbg, .slice A1 y.length m1, HSt1.out.setRest, HOw1.out.grown (only_setCell (World.grownBy.refl _ _) 8 _) (.inr fun e => HNe1.out e.symm), fun e => HNe1.out e.symm, hx1⟩
  have hb2 : Below base w (w1.setCell ⟨g, 8, none⟩ (.slice A1 y.length m1)) :=
    below_set (HGr1.out.below (below_set (Below.refl _ _) _ _ _ hbg) (by simp; exact hbase) (fun k hk => (HOw.out.lt k hk).1)) _ _ _ hbg
  generalize n + x.length = N at *
  have HSt2 := Lib.hid hst2
  have HB2 := Lib.hid hb2
  have HS1 := Lib.hid hs1
  clear hst2 hb2 hx1 hs1
  go_loopw [23] (fun _ wq => ∃ v' y', StOf wq base X g v' y' N ∧ v'.ok ∧ whole v' y' = whole v y ∧ Below base w wq ∧ Same X w wq) (fun _ wq => restLen wq g)
  case atStart => exact ⟨v, y, HSt2.out, HV.out, rfl, HB2.out, HS1.out⟩
  case round =>
    obtain ⟨v', y', hst, hv', hwh, hbel, hsame⟩ := hrel
    obtain ⟨_, rv', hst, how, hne, hx3⟩ := hst
    have HX3 := Lib.hid hx3
    have HS3 := Lib.hid hsame
    clear hx3 hsame
    obtain ⟨A', m', rfl, hm1', hm2'⟩ := how.slice
    rw [bvs_length] at *
    obtain ⟨d0, d1, d2, d3, d4, d5, d6, d7, d8, d9, df⟩ := hst.cells
    have hgr : g < wr.heap.size := (Array.getElem?_eq_some_iff.1 hst).1
    have hRy := how.reads
    unfold maxLen at hm2'
    have HOw3 := Lib.hid how
    have HSt3 := Lib.hid hst
    have HNe3 := Lib.hid hne
    have HWh := Lib.hid hwh
    have HBel := Lib.hid hbel
    have HV' := Lib.hid hv'
    have HRy := Lib.hid hRy
    clear how hst hne hwh hbel hv' hRy d0 d1 d2 d3 d4 d5 d6 d7
    by_cases h64 : 64 ≤ y'.length
    · have j1 : (64 : Int) ≤ (y'.length : Int) := by omega
      go_wp2_with fail
      have hp := piece_any wr v' g A' m' (y'.take 64) (.slice A' y'.length m') N HV'.out hgr HSt3.out (HRo.out.below HBel.out hlt) (by omega) (by rw [List.length_take]; omega) (by rw [bvs_take]; exact (HRy.out.take 64).mono (fun k hk => hk.2))
      refine hp.mono ?_
      clear hp
      rintro e w2 ⟨rfl, hst4, hg4⟩
      have how4 := HOw3.out.grown hg4 (.inr HNe3.out)
      have hcut := how4.cut 64 (by rw [bvs_length]; exact h64)
      rw [← bvs_drop] at hcut
      obtain ⟨d0, d1, d2, d3, d4, d5, d6, d7, d8', d9', df'⟩ := hst4.cells
      have HSt4 := Lib.hid hst4
      have HG4 := Lib.hid hg4
      have HOw4 := Lib.hid how4
      have HCut := Lib.hid hcut
      clear hst4 hg4 how4 hcut d0 d1 d2 d3 d4 d5 d6 d7
      go_wp2_with fail
      rw [map_add64]
      have hne5 : (Value.slice (if m' = 64 then A' else A'.map (·.add 64)) (y'.length - 64) (m' - 64)).ownBlock ≠ some g := by
        rw [ownBlock_cut A' y'.length m' 64]
        exact HNe3.out
      refine ⟨⟨pieceV v' (natBytes (y'.take 64)), y'.drop 64, ⟨hbg, _, HSt4.out.setRest, HCut.out.grown (only_setCell (World.grownBy.refl _ _) 8 _) (.inr hne5), hne5, fun k hk => ?_⟩, pieceV_ok _ _, ?_, ?_, fun k hk => ?_⟩, ?_⟩
      · obtain ⟨q1, q2, q3⟩ := HX3.out k hk
        refine ⟨by have := HG4.out.size; simp; omega, q2, ?_⟩
        rw [ownBlock_cut A' y'.length m' 64]
        exact q3
      · rw [← HWh.out, whole_more v' y' h64]
      · exact below_set (below_grown HBel.out (Nat.le_trans hbase HBel.out.size) HG4.out (fun k hk => by injection hk with hk; omega)) _ _ _ hbg
      · obtain ⟨q1, q2, q3⟩ := HX3.out k hk
        rw [setCell_ne _ _ _ _ _ q2, HG4.out.block k q1 (fun e => q2 (by injection e)), HS3.out k hk]
      · rw [restLen_set _ _ _ _ _ _ d8']
        unfold restLen
        rw [d8]
        show y'.length - 64 < y'.length
        omega
    · have j1 : ¬ (64 : Int) ≤ (y'.length : Int) := by omega
      have hw := whole_few v' y' (by omega)
      have HW := Lib.hid hw
      clear hw
      go_wp2_with fail
      go_end0
      exact ⟨rfl, by rw [← HWh.out, HW.out]; exact ⟨hbg, _, HSt3.out, HOw3.out, HNe3.out, HX3.out⟩, HBel.out, HS3.out⟩
theorem take_any (w : World) (base : Nat) (X : Nat → Prop) (g : Nat) (b x : Bs) (ok : Nat → Prop) (A : Option Addr) (c : Nat) (hbase : base ≤ w.heap.size) (hSt : StIs w base X g b) (hRo : RoundAt w) (hlt : 19 < base) (hR : RdC ok w A (bvs x)) (hok : ∀ k, ok k → k ≠ g) (hl : b.length + x.length ≤ 70368744177664) :
    Calls Tryd.prog 89 #[.pointer (some ⟨g, 0, none⟩), .slice A x.length c] w (TakeP w base X g (b ++ x)) := by
  obtain ⟨h1, h2⟩ := whole_ok b.length V8.first b (Nat.le_refl _) first_ok
  refine (take_of w base X g _ _ x b.length ok A c hbase h1 h2 hSt hRo hlt hR hok hl).mono ?_
  rintro e w' ⟨he, hs, hb, hx⟩
  refine ⟨he, ?_, hb, hx⟩
  unfold StIs
  rw [whole_append b.length V8.first b x (Nat.le_refl _), List.length_append]
  exact hs
/-- take([]byte{y}). -/
theorem take_one (W : World) (base : Nat) (X : Nat → Prop) (g : Nat) (b : Bs) (y : UInt8) (H : Nat) (hH : W.heap.size = H) (hbase : base ≤ W.heap.size) (hSt : StIs W base X g b) (hRo : RoundAt W) (hlt : 19 < base) (hl : b.length + 1 ≤ 70368744177664) :
    Calls Tryd.prog 89 #[.pointer (some ⟨g, 0, none⟩), .slice (some ⟨H, 0, none⟩) 1 1] (W.alloc (.cells #[bv y] 5)) (TakeP W base X g (b ++ [y])) := by
  subst hH
  have hb : Below W.heap.size W (W.alloc (.cells #[bv y] 5)) := (Below.refl _ _).alloc (Nat.le_refl _) _
  have hx : ∀ k, X k → k < W.heap.size := fun k hk => by
    obtain ⟨_, rv, _, _, _, h5⟩ := hSt
    exact (h5 k hk).1
  refine (take_any (W.alloc (.cells #[bv y] 5)) base X g b [y] (fun k => k = W.heap.size) (some ⟨W.heap.size, 0, none⟩) 1 (by simp; omega) (StOf.below hSt hb) (hRo.below hb hRo.lt) hlt (RdC.new W #[bv y] _) (fun k hk => ?_) hl).mono ?_
  · have := StOf.lt hSt
    omega
  · rintro e w' ⟨he, hs, hb2, hx2⟩
    exact ⟨he, hs, ((Below.refl _ _).alloc hbase _).trans hb2, fun k hk => (hx2 k hk).trans (hb.block k (hx k hk))⟩
end Go.Proofs.YtipgimmgjdgdeaaDoor
/- Walk of package hash: take. -/
set_option linter.unusedVariables false
set_option linter.unusedSimpArgs false
set_option linter.unnecessarySimpa false
namespace Go.Proofs.YtipgimmgjdgdeaaDoor
open Go.RowKit

def noX : Nat → Prop := fun _ => False
def stateObj : Obj := .cells #[.int .u32 1779033703, .int .u32 3144134277, .int .u32 1013904242, .int .u32 2773480762, .int .u32 1359893119, .int .u32 2600822924, .int .u32 528734635, .int .u32 1541459225, .slice none 0 0, .int .u64 0] 155 (0, 0)
def BeginP (w : World) (e : Ending) (w' : World) : Prop := e = .returned (.pointer (some ⟨w.heap.size, 0, none⟩)) ∧ w' = w.alloc stateObj
theorem begin_any (w : World) : Calls Tryd.prog 88 #[] w (BeginP w) := by
  go_enter Tryd.func88, Tryd.ntmps88
  go_wp2
  go_ret
  exact ⟨rfl, rfl⟩
theorem begin_is (w : World) (base : Nat) (hb : base ≤ w.heap.size) : StIs (w.alloc stateObj) base noX w.heap.size [] := by
  unfold StIs
  rw [whole_few _ _ (by decide)]
  exact ⟨hb, .slice none 0 0, heap_alloc_new _ _, .inl ⟨rfl, rfl⟩, by simp [Value.ownBlock], fun k hk => hk.elim⟩

theorem restLen_is {w : World} {base : Nat} {X : Nat → Prop} {g : Nat} {v : V8} {r : Bs} {n : Nat} (h : StOf w base X g v r n) : restLen w g = r.length := by
  obtain ⟨_, rv, hst, how, _⟩ := h
  obtain ⟨A, m, rfl, _⟩ := how.slice
  obtain ⟨_, _, _, _, _, _, _, _, d8, _⟩ := hst.cells
  unfold restLen
  rw [d8]
  simp
theorem restLen_take {w : World} {base : Nat} {X : Nat → Prop} {g : Nat} {b : Bs} (h : StIs w base X g b) : restLen w g = b.length % 64 := by
  rw [restLen_is h, whole_rest_length _ _ _ (Nat.le_refl _)]
theorem words_index (v : V8) (t : Nat) (h : t < 8) (w : World) : (Instr.index 153 (.agg (u32s v.list).toArray) (.int .i64 (t : Int))).run Tryd.prog w = .ok (.int .u32 ((v.list.getD t 0 : Nat) : Int)) w := by
  have hlt : t < v.list.length := by rw [V8.list_length]; exact h
  have hs : Tryd.prog.cellsOf 152 = 1 := by kernel_rfl
  obtain ⟨i0, hi⟩ := Option.isSome_iff_exists.1 (show (Tryd.prog.info? 152).isSome = true by kernel_rfl)
  simp [Instr.index, run_underlying Tryd.underlying153, asIntOf, run_sizeOf w hi, hs, part, h, isAgg, run_underlying Tryd.underlying152, u32s]
  rw [List.getElem?_eq_getElem hlt]
  rfl
theorem StAt.range {w : World} {g : Nat} {v : V8} {rest : Value} {n : Nat} (h : StAt w g v rest n) : w.rangeAt g 0 (u32s v.list) := by
  obtain ⟨c0, c1, c2, c3, c4, c5, c6, c7, _⟩ := h.cells
  intro j u hj
  have hl : j < 8 := by
    have := (List.getElem?_eq_some_iff.1 hj).1
    simpa [u32s, V8.list_length] using this
  have : j = 0 ∨ j = 1 ∨ j = 2 ∨ j = 3 ∨ j = 4 ∨ j = 5 ∨ j = 6 ∨ j = 7 := by omega
  rcases this with rfl | rfl | rfl | rfl | rfl | rfl | rfl | rfl <;> (simp [u32s, V8.list] at hj; subst hj; assumption)
theorem shr_byte (N k : Nat) : Value.int .u8 ((N : Int) / 2 ^ k % 256) = bv (UInt8.ofNat (N >>> k)) := by
  unfold bv
  congr 1
  rw [Nat.shiftRight_eq_div_pow, UInt8.toNat_ofNat']
  have e : (N : Int) / 2 ^ k = ((N / 2 ^ k : Nat) : Int) := by simp
  rw [e]
  omega
theorem wordBytes_length (w : Nat) : (wordBytes w).length = 4 := rfl
theorem flat_length : ∀ (L : List Nat), (L.flatMap wordBytes).length = 4 * L.length
  | [] => rfl
  | x :: L => by rw [List.flatMap_cons, List.length_append, flat_length L, wordBytes_length, List.length_cons]; omega
theorem flat_get : ∀ (L : List Nat) (t k : Nat), t < L.length → k < 4 → (L.flatMap wordBytes).getD (4 * t + k) 0 = UInt8.ofNat (L.getD t 0 >>> (24 - 8 * k))
  | [], t, k, h, _ => by simp at h
  | x :: L, 0, k, _, hk => by
    rw [List.flatMap_cons, List.getD_eq_getElem?_getD, List.getElem?_append_left (by rw [wordBytes_length]; omega)]
    have : k = 0 ∨ k = 1 ∨ k = 2 ∨ k = 3 := by omega
    rcases this with rfl | rfl | rfl | rfl <;> rfl
  | x :: L, t + 1, k, h, hk => by
    rw [List.flatMap_cons, List.getD_eq_getElem?_getD, List.getElem?_append_right (by rw [wordBytes_length]; omega), wordBytes_length, show 4 * (t + 1) + k - 4 = 4 * t + k by omega, ← List.getD_eq_getElem?_getD, flat_get L t k (by simpa using h) hk]
    simp
/-- An array of bytes in a block of its own. -/
def BArr (w : World) (H : Nat) (T : TypeId) (bs : Bs) : Prop := w.heap[H]? = some (.cells (bvs bs).toArray T (0, 0))
theorem BArr.lt {w : World} {H : Nat} {T : TypeId} {bs : Bs} (h : BArr w H T bs) : H < w.heap.size := (Array.getElem?_eq_some_iff.1 h).1
theorem BArr.cell {w : World} {H : Nat} {T : TypeId} {bs : Bs} (h : BArr w H T bs) (k : Nat) (hk : k < bs.length) : w.cell? ⟨H, k, none⟩ = some (bv (bs.getD k 0)) := by
  have h' : w.heap[H]? = _ := h
  simp [World.cell?, h', bvs, hk]
theorem BArr.frozen {w : World} {H : Nat} {T : TypeId} {bs : Bs} (h : BArr w H T bs) (k : Nat) : w.frozen? ⟨H, k, none⟩ = false := by
  have h' : w.heap[H]? = _ := h
  simp [World.frozen?, h']
theorem BArr.set {w : World} {H : Nat} {T : TypeId} {bs : Bs} (h : BArr w H T bs) (k : Nat) (y : UInt8) : BArr (w.setCell ⟨H, k, none⟩ (bv y)) H T (bs.set k y) := by
  have h1 := heap_setCell_same w H k _ T (bv y) h
  unfold BArr
  rw [h1]
  simp [bvs, List.map_set]
theorem BArr.move {w w' : World} {H : Nat} {T : TypeId} {bs : Bs} (h : BArr w H T bs) (e : w'.heap[H]? = w.heap[H]?) : BArr w' H T bs := e.trans h
theorem BArr.reads {w : World} {H : Nat} {T : TypeId} {bs : Bs} (h : BArr w H T bs) : RdC (fun k => k = H) w (some ⟨H, 0, none⟩) (bvs bs) := fun _ =>
  ⟨_, rfl, rfl, World.news_of_block (cs := (bvs bs).toArray) (t := T) (fr := (0, 0)) h⟩
theorem BArr.range {w : World} {H : Nat} {T : TypeId} {bs : Bs} (h : BArr w H T bs) : w.rangeAt H 0 (bvs bs) := fun j v hj => by
  have h' : w.heap[H]? = _ := h
  simpa [World.cell?, h'] using hj
/-- A whole array is stored into its variable. -/
theorem wpList_store_all {P : Program} {ops : Array Oper} {rest : List Oper} {op : Oper} {a : Act} {w : World} {Q : Exit → Act → World → Prop} (hgd : op.guard = none) (ty : TypeId) (x y : Operand) (ho : op.op = .store ty x y)
    (H : Nat) (cur cells : Array Value) (t : TypeId) (hx : a.eval x = .pointer (some ⟨H, 0, none⟩)) (hy : a.eval y = .agg cells) (hg : w.heap[H]? = some (.cells cur t (0, 0))) (hsz : cur.size = cells.size)
    (hi : (P.info? ty).map (·.size) = some cells.size) (h1 : ∀ v ∈ cells.toList, v.oneCell' = true)
    (h : wpList P ops Q rest (a.put op.dst undef) (w.setRow H cells)) : wpList P ops Q (op :: rest) a w := by
  refine wpList_plain hgd fun _ hK => ?_
  have hst := run_storeCells_at P H 0 t cells.toList 0 cur w hg (by simp; omega) h1
  have e : (cur.toList.take (0 + 0) ++ cells.toList ++ cur.toList.drop (0 + 0 + cells.toList.length)).toArray = cells := by
    rw [List.drop_eq_nil_of_le (by simp; omega)]
    simp
  rw [e] at hst
  have hs : (storeVar ty ⟨H, 0, none⟩ (.agg cells)).run P w = .ok () (w.setRow H cells) := by
    cases hq : P.info? ty with
    | none => simp [hq] at hi
    | some i =>
      have hs : cells.size = i.size := by simp [hq] at hi; omega
      simp [storeVar, sizeOf, typeInfo, hq, Value.cells, hs, hst]
  unfold Oper.wp execOp
  simp only [ho, hx, hy, Instr.storeAt, Instr.sureAddr, Sem.run_bind, Sem.run_pure, Result.andThen_ok, hs]
  exact hK _ _ h
theorem alloc_setRow (w : World) (cur cells : Array Value) (t : TypeId) : (w.alloc (.cells cur t (0, 0))).setRow w.heap.size cells = w.alloc (.cells cells t (0, 0)) := by
  unfold World.setRow World.alloc
  congr 1
  apply Array.ext_getElem?
  intro i
  rw [Array.getElem?_modify]
  by_cases h : i = w.heap.size
  · subst h
    simp
  · rw [if_neg (fun e => h e.symm)]
    simp only [Array.getElem?_push]
    rw [if_neg h, if_neg h]
/-- .. into a variable that was just made. -/
theorem wpList_store_new {P : Program} {ops : Array Oper} {rest : List Oper} {op : Oper} {a : Act} {w : World} {Q : Exit → Act → World → Prop} (hgd : op.guard = none) (ty : TypeId) (x y : Operand) (ho : op.op = .store ty x y)
    (cur cells : Array Value) (t : TypeId) (hx : a.eval x = .pointer (some ⟨w.heap.size, 0, none⟩)) (hy : a.eval y = .agg cells) (hsz : cur.size = cells.size)
    (hi : (P.info? ty).map (·.size) = some cells.size) (h1 : ∀ v ∈ cells.toList, v.oneCell' = true)
    (h : wpList P ops Q rest (a.put op.dst undef) (w.alloc (.cells cells t))) : wpList P ops Q (op :: rest) a (w.alloc (.cells cur t)) :=
  wpList_store_all hgd ty x y ho w.heap.size cur cells t hx hy (heap_alloc_new _ _) hsz hi h1 (by rw [alloc_setRow]; exact h)
/-- The first t of the bytes xs, then zeros. -/
def fillL (xs : Bs) (t : Nat) : Bs := xs.take t ++ List.replicate (xs.length - t) 0
theorem fillL_length (xs : Bs) (t : Nat) (h : t ≤ xs.length) : (fillL xs t).length = xs.length := by
  unfold fillL
  rw [List.length_append, List.length_take, List.length_replicate]
  omega
theorem fillL_set (xs : Bs) (t : Nat) (h : t < xs.length) : (fillL xs t).set t (xs.getD t 0) = fillL xs (t + 1) := by
  unfold fillL
  rw [List.set_append_right _ _ (by rw [List.length_take]; omega), List.length_take, show xs.length - t = (xs.length - (t + 1)) + 1 by omega, List.replicate_succ, show t - min t xs.length = 0 by omega, List.set_cons_zero, List.take_succ_eq_append_getElem h, List.append_assoc]
  simp [h]
theorem fillL_all (xs : Bs) : fillL xs xs.length = xs := by simp [fillL]
theorem lengthBytes_length (n : Nat) : (lengthBytes n).length = 8 := by simp [lengthBytes]
theorem lengthBytes_get (n t : Nat) (h : t < 8) : (lengthBytes n).getD t 0 = UInt8.ofNat (n >>> (56 - 8 * t)) := by
  unfold lengthBytes
  rw [List.getD_eq_getElem?_getD, List.getElem?_map, List.getElem?_range h]
  rfl
def EndP (w : World) (base : Nat) (b : Bs) (e : Ending) (w' : World) : Prop := e = .returned (.agg (bvs (sha b)).toArray) ∧ Below base w w'
set_option maxRecDepth 8000 in
set_option maxHeartbeats 4000000 in
theorem end_any (w : World) (base : Nat) (X : Nat → Prop) (g : Nat) (b : Bs) (hbase : base ≤ w.heap.size) (hSt : StIs w base X g b) (hRo : RoundAt w) (hlt : 19 < base) (hl : b.length ≤ 35184372088832) :
    Calls Tryd.prog 90 #[.pointer (some ⟨g, 0, none⟩)] w (EndP w base b) := by
  have hlt2 := hSt.lt
  obtain ⟨hbg, rv, hst, _⟩ := id hSt
  obtain ⟨c0, c1, c2, c3, c4, c5, c6, c7, c8, c9, cf⟩ := hst.cells
  have k1 : IntKind.u64.wrap ((b.length : Int) * 8) = (b.length : Int) * 8 := IntWalk.u64_in _ (by omega)
  have HSt := Lib.hid hSt
  have HRo := Lib.hid hRo
  clear hSt hRo c0 c1 c2 c3 c4 c5 c6 c7 c8 cf hst
  go_enter Tryd.func90, Tryd.ntmps90
  go_wp2_with fail
  generalize hZ : Obj.cells #[Value.int .u8 0, Value.int .u8 0, Value.int .u8 0, Value.int .u8 0, Value.int .u8 0, Value.int .u8 0, Value.int .u8 0, Value.int .u8 0, Value.int .u8 0, Value.int .u8 0, Value.int .u8 0, Value.int .u8 0, Value.int .u8 0, Value.int .u8 0, Value.int .u8 0, Value.int .u8 0, Value.int .u8 0, Value.int .u8 0, Value.int .u8 0, Value.int .u8 0, Value.int .u8 0, Value.int .u8 0, Value.int .u8 0, Value.int .u8 0, Value.int .u8 0, Value.int .u8 0, Value.int .u8 0, Value.int .u8 0, Value.int .u8 0, Value.int .u8 0, Value.int .u8 0, Value.int .u8 0] 137 (0, 0) = Z
  have HZ := Lib.hid hZ
  clear hZ
  have hbz : Below w.heap.size w (w.alloc Z) := (Below.refl _ _).alloc (Nat.le_refl _) _
  have hsz : StIs (w.alloc Z) base (fun k => k = w.heap.size) g b := StOf.other HSt.out _ hbz (fun k hk => .inr ⟨by omega, by simp; omega⟩)
  refine (take_one (w.alloc Z) base (fun k => k = w.heap.size) g b 128 (w.heap.size + 1) (by simp) (by simp; omega) hsz (HRo.out.below hbz HRo.out.lt) hlt (by omega)).mono ?_
  rintro e w1 ⟨rfl, hs1, hb1, hx1⟩
  have hz1 : w1.heap[w.heap.size]? = some Z := (hx1 _ rfl).trans (heap_alloc_new _ _)
  have hbw1 : Below base w w1 := ((Below.refl _ _).alloc hbase _).trans hb1
  have HS1 := Lib.hid hs1
  have HZ1 := Lib.hid hz1
  have HB1 := Lib.hid hbw1
  clear hbz hsz hs1 hz1 hbw1 hb1 hx1
  go_wp2_with fail
  go_loopw [18] (fun _ wq => ∃ k, k ≤ (119 - b.length % 64) % 64 ∧ StIs wq base (fun k => k = w.heap.size) g (b ++ [128] ++ List.replicate k 0) ∧ wq.heap[w.heap.size]? = some Z ∧ Below base w wq) (fun _ wq => if restLen wq g ≤ 56 then 56 - restLen wq g else 120 - restLen wq g)
  case atStart => exact ⟨0, Nat.zero_le _, by simpa using HS1.out, HZ1.out, HB1.out⟩
  case round =>
    obtain ⟨k, hk, hst, hz, hbel⟩ := hrel
    have hrl := whole_rest_length _ V8.first (b ++ [128] ++ List.replicate k 0) (Nat.le_refl _)
    have hln : (b ++ [128] ++ List.replicate k (0 : UInt8)).length = b.length + 1 + k := by simp; omega
    have hq0 := restLen_take hst
    rw [hln] at hq0
    have HQ0 := Lib.hid hq0
    clear hq0
    rw [hln] at hrl
    obtain ⟨_, rv', hst', how, hne, _⟩ := id hst
    obtain ⟨A', m', rfl, hm1', hm2'⟩ := how.slice
    rw [bvs_length] at *
    obtain ⟨d0, d1, d2, d3, d4, d5, d6, d7, d8, d9, df⟩ := hst'.cells
    have hbw : base ≤ wr.heap.size := Nat.le_trans hbase hbel.size
    generalize (whole V8.first (b ++ [128] ++ List.replicate k 0)).2.length = q at *
    have HSt1 := Lib.hid hst
    have HZ2 := Lib.hid hz
    have HB2 := Lib.hid hbel
    have HRl := Lib.hid hrl
    have HLn := Lib.hid hln
    clear hst hz hbel hst' how hne d0 d1 d2 d3 d4 d5 d6 d7 df hrl hln
    by_cases h56 : q = 56
    · have t1 : ((q : Int) == 56) = true := by simp; omega
      have t2 : ((q : Int) != 56) = false := by simp; omega
      have hk3 : k = (119 - b.length % 64) % 64 := by have := HRl.out; omega
      have HK := Lib.hid hk3
      clear hk3
      go_wp2_with fail
      generalize hY : b ++ [128] ++ List.replicate k 0 = y at *
      have HYe := Lib.hid hY
      clear hY
      obtain ⟨wo, rfl⟩ : ∃ x : World, x = wr := ⟨_, rfl⟩
      go_loopw [27] (fun i wq => ∃ t : Nat, t ≤ 8 ∧ i = .int .i64 t ∧ BArr wq wo.heap.size 156 (fillL (lengthBytes (b.length * 8)) t) ∧ StIs wq base (fun k => k = w.heap.size ∨ k = wo.heap.size) g y ∧ wq.heap[w.heap.size]? = some Z ∧ Below base w wq) (fun i _ => 8 - (intOf i).toNat)
      case atStart =>
        have hzl : w.heap.size < wo.heap.size := (Array.getElem?_eq_some_iff.1 HZ2.out).1
        exact ⟨0, by omega, rfl, heap_alloc_new _ _, StOf.other HSt1.out _ ((Below.refl _ _).alloc (Nat.le_refl _) _) (fun k hk => hk.imp id (fun e => ⟨by omega, by simp; omega⟩)), (heap_alloc_old _ _ hzl).trans HZ2.out, HB2.out.alloc hbw _⟩
      case round =>
        obtain ⟨t, ht, rfl, harr, hst, hz, hbel⟩ := hrel
        by_cases h8 : t < 8
        · have c1 := harr.cell t (by rw [fillL_length _ _ (by rw [lengthBytes_length]; omega), lengthBytes_length]; omega)
          have cf := harr.frozen t
          have j0 : (0 : Int) ≤ (t : Int) := by omega
          have j1 : (t : Int) < 8 := by omega
          have hadd : ∀ b j, (⟨b, 0, none⟩ : Addr).add j = ⟨b, j, none⟩ := fun b j => by unfold Addr.add; split <;> simp_all
          have m0 : IntKind.i64.wrap (8 * (t : Int)) = 8 * (t : Int) := IntWalk.i64_in _ (by omega)
          have m1 : IntKind.i64.wrap (56 - 8 * (t : Int)) = 56 - 8 * (t : Int) := IntWalk.i64_in _ (by omega)
          have m2 : (0 : Int) ≤ 56 - 8 * (t : Int) := by omega
          have m3 : (56 - 8 * (t : Int)).toNat = 56 - 8 * t := by omega
          have m4 : 56 - 8 * t < 64 := by omega
          go_wp2_with fail
          have eN : (b.length : Int) * 8 = ((b.length * 8 : Nat) : Int) := by simp
          rw [eN, shr_byte]
          have hf := fillL_set (lengthBytes (b.length * 8)) t (by rw [lengthBytes_length]; exact h8)
          rw [lengthBytes_get _ _ h8] at hf
          have hne : w.heap.size ≠ wo.heap.size := by have := (Array.getElem?_eq_some_iff.1 HZ2.out).1; omega
          refine ⟨⟨t + 1, by omega, by go_num, ?_, StOf.store hst _ _ _ (.inr rfl), (heap_setCell_other _ _ _ _ hne).trans hz, below_set hbel _ _ _ hbw⟩, by simp [intOf]; omega⟩
          rw [← hf]
          exact harr.set t _
        · obtain rfl : t = 8 := by omega
          have hfa := fillL_all (lengthBytes (b.length * 8))
          rw [lengthBytes_length] at hfa
          rw [hfa] at harr
          have hbw2 : base ≤ wr.heap.size := Nat.le_trans hbase hbel.size
          have HArr := Lib.hid harr
          have HSt2 := Lib.hid hst
          have HZ3 := Lib.hid hz
          have HB3 := Lib.hid hbel
          clear harr hst hz hbel hfa
          rw [show ((8 : Nat) : Int) = 8 from rfl]
          go_wp2_with fail
          have hc := take_any wr base (fun k => k = w.heap.size ∨ k = wo.heap.size) g y (lengthBytes (b.length * 8)) (fun k => k = wo.heap.size) (some ⟨wo.heap.size, 0, none⟩) 8 hbw2 HSt2.out (HRo.out.below HB3.out hlt) hlt HArr.out.reads (fun k hk => by
            obtain ⟨_, _, _, _, _, h5⟩ := HSt2.out
            have := (h5 k (.inr hk)).2.1
            exact this) (by rw [lengthBytes_length, HLn.out]; omega)
          rw [lengthBytes_length] at hc
          refine hc.mono ?_
          clear hc
          rintro e w3 ⟨rfl, hs3, hb3, hx3⟩
          have hy2 : y ++ lengthBytes (b.length * 8) = b ++ padding b.length := by rw [← HYe.out, HK.out]; simp [padding]
          rw [hy2] at hs3
          have hsha : sha b = (whole V8.first (b ++ padding b.length)).1.list.flatMap wordBytes := sha_whole b
          have hz3 : w3.heap[w.heap.size]? = some Z := (hx3 _ (.inl rfl)).trans HZ3.out
          obtain ⟨_, rv3, hst3, _⟩ := hs3
          generalize (whole V8.first (b ++ padding b.length)).1 = u at *
          have hsl : (sha b).length = 32 := by rw [hsha, flat_length, V8.list_length]
          have hsg : ∀ t k, t < 8 → k < 4 → (sha b).getD (4 * t + k) 0 = UInt8.ofNat (u.list.getD t 0 >>> (24 - 8 * k)) := fun t k h1 h2 => by rw [hsha]; exact flat_get _ _ _ (by rw [V8.list_length]; exact h1) h2
          generalize hFF : sha b = F at *
          have HFF := Lib.hid hFF
          clear hFF
          obtain ⟨L, hL1, hL2, hL3⟩ : ∃ L : List Value, w3.rangeAt g 0 L ∧ L.length = 8 ∧ ∀ t : Nat, t < 8 → ∀ w, (Instr.index 153 (.agg L.toArray) (.int .i64 (t : Int))).run Tryd.prog w = .ok (.int .u32 ((u.list.getD t 0 : Nat) : Int)) w :=
            ⟨u32s u.list, hst3.range, by simp [u32s, V8.list_length], words_index u⟩
          have HL1 := Lib.hid hL1
          have HL2 := Lib.hid hL2
          have HL3 := Lib.hid hL3
          have HZ4 := Lib.hid hz3
          have HB4 := Lib.hid (HB3.out.trans hb3)
          have HSl := Lib.hid hsl
          have HSg := Lib.hid hsg
          have hw3 : base ≤ w3.heap.size := Nat.le_trans hbase HB4.out.size
          have hw4 : w.heap.size < w3.heap.size := (Array.getElem?_eq_some_iff.1 hz3).1
          clear hL1 hL2 hL3 hz3 hb3 hx3 hst3 hsl hsg hsha hy2
          go_wp2_with (with_reducible refine wpList_load_mid (op := ⟨some 45, _, _, _, _, _⟩) rfl _ _ rfl g 0 rfl L _ (World.rangeAt_alloc HL1.out _) Tryd.underlying153 rfl (by rw [HL2.out]; kernel_rfl) ?_)
          go_loopw [46] (fun i wq => ∃ t : Nat, t ≤ 8 ∧ i = .int .i64 t ∧ BArr wq w3.heap.size 137 (fillL F (4 * t)) ∧ wq.heap[w.heap.size]? = some Z ∧ Below base w wq) (fun i _ => 8 - (intOf i).toNat)
          case atStart =>
            refine ⟨0, by omega, rfl, ?_, (heap_alloc_old _ _ hw4).trans HZ4.out, HB4.out.alloc hw3 _⟩
            unfold BArr fillL
            rw [heap_alloc_new, HSl.out]
            rfl
          case round =>
            obtain ⟨t, ht, rfl, harr, hz, hbel⟩ := hrel
            by_cases h8' : t < 8
            · have hix := HL3.out t h8'
              have hg4 := HSg.out t
              generalize u.list.getD t 0 = x at *
              have j0 : (0 : Int) ≤ (t : Int) := by omega
              have j1 : (t : Int) < 8 := by omega
              have HArr3 := Lib.hid harr
              have HZ5 := Lib.hid hz
              have HB5 := Lib.hid hbel
              have HG4 := Lib.hid hg4
              clear harr hz hbel hg4
              go_wp2_with fail
              obtain ⟨wp, rfl⟩ : ∃ x : World, x = wr := ⟨_, rfl⟩
              go_loopw [50] (fun i wq => ∃ k : Nat, k ≤ 4 ∧ i = .int .i64 k ∧ BArr wq w3.heap.size 137 (fillL F (4 * t + k)) ∧ wq.heap[w.heap.size]? = some Z ∧ Below base w wq) (fun i _ => 4 - (intOf i).toNat)
              case atStart => exact ⟨0, by omega, rfl, HArr3.out, HZ5.out, HB5.out⟩
              case round =>
                obtain ⟨k', hk', rfl, harr, hz, hbel⟩ := hrel
                by_cases h4 : k' < 4
                · have c1 := harr.cell (4 * t + k') (by rw [fillL_length _ _ (by rw [HSl.out]; omega), HSl.out]; omega)
                  have cf := harr.frozen (4 * t + k')
                  have hadd : ∀ b j, (⟨b, 0, none⟩ : Addr).add j = ⟨b, j, none⟩ := fun b j => by unfold Addr.add; split <;> simp_all
                  have i0 : (0 : Int) ≤ (k' : Int) := by omega
                  have i1 : (k' : Int) < 4 := by omega
                  have m0 : IntKind.i64.wrap (4 * (t : Int)) = 4 * (t : Int) := IntWalk.i64_in _ (by omega)
                  have m1 : IntKind.i64.wrap (4 * (t : Int) + (k' : Int)) = 4 * (t : Int) + (k' : Int) := IntWalk.i64_in _ (by omega)
                  have m2 : IntKind.i64.wrap (8 * (k' : Int)) = 8 * (k' : Int) := IntWalk.i64_in _ (by omega)
                  have m3 : IntKind.i64.wrap (24 - 8 * (k' : Int)) = 24 - 8 * (k' : Int) := IntWalk.i64_in _ (by omega)
                  have m4 : (0 : Int) ≤ 24 - 8 * (k' : Int) := by omega
                  have m5 : (24 - 8 * (k' : Int)).toNat = 24 - 8 * k' := by omega
                  have m6 : 24 - 8 * k' < 32 := by omega
                  have m7 : (4 * (t : Int) + (k' : Int)).toNat = 4 * t + k' := by omega
                  have m8 : (0 : Int) ≤ 4 * (t : Int) + (k' : Int) := by omega
                  have m9 : 4 * (t : Int) + (k' : Int) < 32 := by omega
                  go_wp2_with fail
                  rw [shr_byte]
                  have hf := fillL_set F (4 * t + k') (by rw [HSl.out]; omega)
                  rw [HG4.out k' h8' h4] at hf
                  have hne : w.heap.size ≠ w3.heap.size := by omega
                  refine ⟨⟨k' + 1, by omega, by go_num, ?_, (heap_setCell_other _ _ _ _ hne).trans hz, below_set hbel _ _ _ hw3⟩, by simp [intOf]; omega⟩
                  rw [show 4 * t + (k' + 1) = 4 * t + k' + 1 by omega, ← hf]
                  exact harr.set _ _
                · obtain rfl : k' = 4 := by omega
                  rw [show ((4 : Nat) : Int) = 4 from rfl]
                  have HArr4 := Lib.hid harr
                  have HZ6 := Lib.hid hz
                  have HB6 := Lib.hid hbel
                  clear harr hz hbel
                  go_wp2_with fail
                  go_roundw
                  case rel => exact ⟨t + 1, by omega, by go_num, by rw [show 4 * (t + 1) = 4 * t + 4 by omega]; exact HArr4.out, HZ6.out, HB6.out⟩
                  case measure => simp [intOf]; omega
            · obtain rfl : t = 8 := by omega
              have hfa := fillL_all F
              rw [HSl.out] at hfa
              rw [show 4 * 8 = 32 from rfl, hfa] at harr
              rw [show ((8 : Nat) : Int) = 8 from rfl]
              have harr' : wr.heap[w3.heap.size]? = some (.cells (bvs F).toArray 137 (0, 0)) := harr
              have hz' := hz
              rw [← HZ.out] at hz'
              have HArr4 := Lib.hid harr'
              have HZ6 := Lib.hid hz
              have HZ7 := Lib.hid hz'
              have HB6 := Lib.hid hbel
              clear harr hz hbel hfa harr' hz'
              have hi32 : (Tryd.prog.info? 137).map (·.size) = some ((bvs F).toArray).size := by
                rw [show ((bvs F).toArray).size = 32 by simp [HSl.out]]
                kernel_rfl
              have HI := Lib.hid hi32
              clear hi32
              have hnew := setRow_heap wr w.heap.size _ (bvs F).toArray _ _ HZ7.out
              have hbn := below_setRow HB6.out hbase (bvs F).toArray
              have HNew := Lib.hid hnew
              have HBn := Lib.hid hbn
              clear hnew hbn
              go_wp2_with (first
                | (with_reducible refine wpList_load_row (o := ⟨some 66, _, _, _, _, _⟩) rfl _ _ rfl w3.heap.size rfl _ (bvs F).toArray _ _ HArr4.out Tryd.underlying137 rfl HI.out ?_)
                | (with_reducible refine wpList_store_all (op := ⟨none, .store 137 _ _, _, _, _, _⟩) rfl 137 _ _ rfl w.heap.size _ (bvs F).toArray _ rfl rfl HZ7.out (by simp; exact HSl.out.symm) HI.out (by simpa using bv_one F) ?_))
              refine bodyPost_ret (v := .agg (bvs F).toArray) (results_cell_row rfl _ _ w.heap.size _ _ _ _ rfl HNew.out Tryd.underlying137 rfl HI.out) rfl ⟨by rw [HFF.out], HBn.out⟩
    · have t1 : ((q : Int) == 56) = false := by simp; omega
      have t2 : ((q : Int) != 56) = true := by simp; omega
      go_wp2_with fail
      have hk2 : k < (119 - b.length % 64) % 64 := by have := HRl.out; omega
      refine (take_one wr base (fun k => k = w.heap.size) g _ 0 wr.heap.size rfl hbw HSt1.out (HRo.out.below HB2.out hlt) hlt (by rw [HLn.out]; omega)).mono ?_
      rintro e w2 ⟨rfl, hs2, hb2, hx2⟩
      have hq := restLen_take hs2
      have HS2 := Lib.hid hs2
      have HBB := Lib.hid hb2
      have HX2 := Lib.hid hx2
      have HQ := Lib.hid hq
      clear hs2 hb2 hx2 hq
      go_wp2_with fail
      have e1 : b ++ [128] ++ List.replicate k 0 ++ [0] = b ++ [128] ++ List.replicate (k + 1) (0 : UInt8) := by rw [List.replicate_succ', List.append_assoc]
      refine ⟨⟨k + 1, by omega, by rw [← e1]; exact HS2.out, (HX2.out _ rfl).trans HZ2.out, HB2.out.trans HBB.out⟩, ?_⟩
      have e2 : (b ++ [128] ++ List.replicate k 0 ++ [0]).length = b.length + 2 + k := by rw [List.length_append, HLn.out]; simp; omega
      rw [HQ.out, HQ0.out, e2]
      have := HRl.out
      split <;> split <;> omega
end Go.Proofs.YtipgimmgjdgdeaaDoor
