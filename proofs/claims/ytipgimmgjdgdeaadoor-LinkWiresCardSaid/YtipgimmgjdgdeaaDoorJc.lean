/- A row out and a row in in memory; walks of package replay: Last, Acked, Bytes, NewOut, NewIn, Got, told. -/
import Derived.Test.YtipgimmgjdgdeaaDoorJa
import Derived.Test.YtipgimmgjdgdeaaDoorJb
import Derived.Test.YtipgimmgjdgdeaaDoorVg
set_option linter.unusedVariables false
set_option linter.unusedSimpArgs false
set_option linter.unnecessarySimpa false
namespace Go.Proofs.YtipgimmgjdgdeaaDoor
open Go.RowKit
attribute [local go_sem] run_store_flt

/-- The cells of a frame that is held: its ten, and its size. -/
def ktCs (f : Fr) (A : Option Addr) (c : Nat) : List Value := (frCs f A c).toList ++ [.int .i64 (sizeF f)]
inductive KtsV (ok : Nat → Prop) (w : World) : List Fr → List Value → Prop
  | nil : KtsV ok w [] []
  | cons {fs : List Fr} {cs : List Value} {f : Fr} {A : Option Addr} {c : Nat} (hr : RdC ok w A (bvs f.bytes)) (h : KtsV ok w fs cs) : KtsV ok w (f :: fs) (ktCs f A c ++ cs)
theorem KtsV.move {ok : Nat → Prop} {w w' : World} {fs : List Fr} {cs : List Value} (h : KtsV ok w fs cs) (hm : ∀ b, ok b → w'.heap[b]? = w.heap[b]?) : KtsV ok w' fs cs := by
  induction h with
  | nil => exact .nil
  | cons hr h ih => exact .cons (hr.move hm) ih
theorem KtsV.mono {ok ok' : Nat → Prop} {w : World} {fs : List Fr} {cs : List Value} (h : KtsV ok w fs cs) (hm : ∀ b, ok b → ok' b) : KtsV ok' w fs cs := by
  induction h with
  | nil => exact .nil
  | cons hr h ih => exact .cons (hr.mono hm) ih
theorem ktCs_len (f : Fr) (A : Option Addr) (c : Nat) : (ktCs f A c).length = 11 := rfl
theorem KtsV.snoc {ok : Nat → Prop} {w : World} {fs : List Fr} {cs : List Value} {f : Fr} {A : Option Addr} {c : Nat} (h : KtsV ok w fs cs) (hr : RdC ok w A (bvs f.bytes)) : KtsV ok w (fs ++ [f]) (cs ++ ktCs f A c) := by
  induction h with
  | nil => simpa using KtsV.cons (c := c) hr .nil
  | cons hr' h ih => rw [List.append_assoc]; exact .cons hr' ih
theorem KtsV.drop {ok : Nat → Prop} {w : World} : ∀ (k : Nat) {fs : List Fr} {cs : List Value}, KtsV ok w fs cs → KtsV ok w (fs.drop k) (cs.drop (k * 11))
  | 0, _, _, h => by simpa using h
  | k + 1, _, _, .nil => by simpa using KtsV.nil
  | k + 1, _, _, .cons (f := f) (A := A) (c := c) hr h => by
    have h2 := KtsV.drop k h
    rw [List.drop_succ_cons, show (k + 1) * 11 = (ktCs f A c).length + k * 11 by rw [ktCs_len]; omega, List.drop_append, show (ktCs f A c).drop ((ktCs f A c).length + k * 11) = [] from List.drop_eq_nil_of_le (by omega), Nat.add_sub_cancel_left, List.nil_append]
    exact h2
theorem KtsV.len {ok : Nat → Prop} {w : World} {fs : List Fr} {cs : List Value} (h : KtsV ok w fs cs) : cs.length = fs.length * 11 := by
  induction h with
  | nil => rfl
  | cons hr h ih => rw [List.length_append, ktCs_len, ih]; simp; omega
/-- Frame i of what is held. -/
theorem KtsV.get {ok : Nat → Prop} {w : World} {fs : List Fr} {cs : List Value} (h : KtsV ok w fs cs) : ∀ (i : Nat) (hi : i < fs.length), ∃ A c, RdC ok w A (bvs fs[i].bytes) ∧ ∀ j, j < 11 → cs[i * 11 + j]? = (ktCs fs[i] A c)[j]? := by
  induction h with
  | nil => intro i hi; cases hi
  | cons hr h ih =>
    rename_i fs cs f A c
    intro i hi
    cases i with
    | zero =>
      refine ⟨A, c, hr, fun j hj => ?_⟩
      rw [List.getElem?_append_left (by rw [ktCs_len]; omega), Nat.zero_mul, Nat.zero_add]
      rfl
    | succ i =>
      obtain ⟨B, d, h3, h4⟩ := ih i (by simpa using hi)
      refine ⟨B, d, h3, fun j hj => ?_⟩
      rw [List.getElem?_append_right (by rw [ktCs_len]; omega), ktCs_len, show (i + 1) * 11 + j - 11 = i * 11 + j by omega]
      exact h4 j hj
/-- What calls on a row out may turn of the world that was there. -/
def OutS (G : Nat) (v : Value) (i : Nat) : Prop := i = G ∨ some i = cutB v
/-- A row out. -/
structure OutAt (M : Nat → Prop) (w : World) (G : Nat) (v : Value) (o : Ro) : Prop where
  head : w.heap[G]? = some (.cells #[v, .int .i64 (o.acked : Nat), .int .i64 (o.bytes : Nat)] 88 (0, 0))
  rows : ∃ cs, CutAt M w 11 v o.held.length cs ∧ KtsV (fun k => M k ∧ k < w.heap.size ∧ ¬ OutS G v k) w o.held cs
  le : M G
  ne : cutB v ≠ some G
theorem OutAt.lt {M : Nat → Prop} {w : World} {G : Nat} {v : Value} {o : Ro} (s : OutAt M w G v o) : G < w.heap.size := (Array.getElem?_eq_some_iff.1 s.head).1
theorem OutAt.ltB {M : Nat → Prop} {w : World} {G : Nat} {v : Value} {o : Ro} (s : OutAt M w G v o) (b : Nat) (hb : cutB v = some b) : M b ∧ b < w.heap.size := by
  obtain ⟨cs, h1, _⟩ := s.rows
  exact h1.lt b hb
theorem OutAt.more {M M' : Nat → Prop} {w : World} {G : Nat} {v : Value} {o : Ro} (s : OutAt M w G v o) (h : ∀ k, k < w.heap.size → M k → M' k) : OutAt M' w G v o := by
  obtain ⟨cs, ⟨A, cap, rfl, h1, h2, h3, hx⟩, hk⟩ := s.rows
  refine ⟨s.head, ⟨cs, ⟨A, cap, rfl, h1, h2, h3, fun h0 => ?_⟩, hk.mono (fun k hk => ⟨h k hk.2.1 hk.1, hk.2⟩)⟩, h G s.lt s.le, s.ne⟩
  obtain ⟨g, off, rfl, k1, k2, k3⟩ := hx h0
  exact ⟨g, off, rfl, h g k2 k1, k2, k3⟩
/-- Nothing of the row has turned. -/
theorem OutAt.move {M : Nat → Prop} {w w' : World} {G : Nat} {v : Value} {o : Ro} (s : OutAt M w G v o) (hz : w.heap.size ≤ w'.heap.size) (hb : ∀ i, M i → i < w.heap.size → w'.heap[i]? = w.heap[i]?) : OutAt M w' G v o := by
  obtain ⟨cs, h1, h2⟩ := s.rows
  exact ⟨(hb G s.le s.lt).trans s.head, ⟨cs, h1.move hz (fun b e => hb b (h1.lt b e).1 (h1.lt b e).2), (h2.move (fun k hk => hb k hk.1 hk.2.1)).mono (fun k hk => ⟨hk.1, by omega, hk.2.2⟩)⟩, s.le, s.ne⟩
theorem OutAt.on {M : Nat → Prop} {w w' : World} {G : Nat} {v : Value} {o : Ro} (s : OutAt M w G v o) (hb : Below w.heap.size w w') : OutAt M w' G v o :=
  s.move hb.size (fun i _ hi => hb.block i hi)
theorem OutAt.c0 {M : Nat → Prop} {w : World} {G : Nat} {v : Value} {o : Ro} (s : OutAt M w G v o) : w.cell? ⟨G, 0, none⟩ = some v := (cell_of_row _ _ _ _ _ _ s.head).trans rfl
theorem OutAt.c1 {M : Nat → Prop} {w : World} {G : Nat} {v : Value} {o : Ro} (s : OutAt M w G v o) : w.cell? ⟨G, 1, none⟩ = some (.int .i64 (o.acked : Nat)) := (cell_of_row _ _ _ _ _ _ s.head).trans rfl
theorem OutAt.c2 {M : Nat → Prop} {w : World} {G : Nat} {v : Value} {o : Ro} (s : OutAt M w G v o) : w.cell? ⟨G, 2, none⟩ = some (.int .i64 (o.bytes : Nat)) := (cell_of_row _ _ _ _ _ _ s.head).trans rfl
theorem OutAt.fz {M : Nat → Prop} {w : World} {G : Nat} {v : Value} {o : Ro} (s : OutAt M w G v o) (i : Nat) : w.frozen? ⟨G, i, none⟩ = false := frozen_of_row w G i _ _ s.head
theorem OutAt.shape {M : Nat → Prop} {w : World} {G : Nat} {v : Value} {o : Ro} (s : OutAt M w G v o) : ∃ A c, v = .slice A o.held.length c ∧ o.held.length ≤ c ∧ c ≤ maxLen := by
  obtain ⟨cs, h1, _⟩ := s.rows
  exact h1.shape
/-- A call that asks the tape alone. -/
def ValP (w : World) (v : Value) (e : Ending) (w' : World) : Prop := e = .returned v ∧ ∃ n, w' = w.drewN n
theorem ValP.below {w w' : World} {v : Value} {e : Ending} (h : ValP w v e w') : e = .returned v ∧ Below w.heap.size w w' := by
  obtain ⟨h1, n, rfl⟩ := h
  exact ⟨h1, below_drewN (Below.refl _ _) _⟩
set_option maxRecDepth 8000 in
set_option maxHeartbeats 1600000 in
theorem last_any (M : Nat → Prop) (w : World) (G : Nat) (v : Value) (o : Ro) (s : OutAt M w G v o) (hf : o.fine) :
    Calls Tryd.prog 22 #[.pointer (some ⟨G, 0, none⟩)] w (ValP w (.int .i64 (o.last : Nat))) := by
  obtain ⟨A, c, rfl, _, _⟩ := s.shape
  have g0 := s.c0
  have g1 := s.c1
  have hl := hf.last
  have hL := Lib.hid (show ((o.last : Nat) : Int) = (o.acked : Int) + (o.held.length : Int) by unfold Ro.last; omega)
  have j0 : IntKind.i64.wrap ((o.acked : Int) + (o.held.length : Int)) = (o.acked : Int) + (o.held.length : Int) := IntWalk.i64_in _ (by have := hL.out; omega)
  clear s hf
  go_enter Tryd.func22, Tryd.ntmps22
  go_wp2_with fail
  go_quiet (fail)
  go_wp2_with fail
  go_ret
  exact ⟨by rw [hL.out]; rfl, _, rfl⟩
set_option maxHeartbeats 800000 in
theorem acked_any (M : Nat → Prop) (w : World) (G : Nat) (v : Value) (o : Ro) (s : OutAt M w G v o) :
    Calls Tryd.prog 23 #[.pointer (some ⟨G, 0, none⟩)] w (ValP w (.int .i64 (o.acked : Nat))) := by
  have g1 := s.c1
  clear s
  go_enter Tryd.func23, Tryd.ntmps23
  go_wp2_with fail
  go_ret
  exact ⟨rfl, 0, rfl⟩
set_option maxHeartbeats 800000 in
theorem obytes_any (M : Nat → Prop) (w : World) (G : Nat) (v : Value) (o : Ro) (s : OutAt M w G v o) :
    Calls Tryd.prog 25 #[.pointer (some ⟨G, 0, none⟩)] w (ValP w (.int .i64 (o.bytes : Nat))) := by
  have g1 := s.c2
  clear s
  go_enter Tryd.func25, Tryd.ntmps25
  go_wp2_with fail
  go_ret
  exact ⟨rfl, 0, rfl⟩
set_option maxHeartbeats 400000 in
theorem newOut_any (w : World) : Calls Tryd.prog 13 #[] w (fun e w' => e = .returned (.pointer (some ⟨w.heap.size, 0, none⟩)) ∧ Below w.heap.size w w' ∧ w'.heap.size = w.heap.size + 1 ∧ OutAt (w.heap.size ≤ ·) w' w.heap.size (.slice none 0 0) ⟨[], 0⟩) := by
  go_enter Tryd.func13, Tryd.ntmps13
  go_wp2_with fail
  go_ret
  exact ⟨rfl, below_box _ _, by simp, ⟨heap_alloc_new _ _, ⟨[], CutAt.nil _ _ _, .nil⟩, Nat.le_refl _, by simp [cutB]⟩⟩
/-- A row in. -/
def InAt (w : World) (G : Nat) (n : Nat) : Prop := w.heap[G]? = some (.cells #[.int .i64 (n : Nat)] 90 (0, 0))
theorem InAt.c0 {w : World} {G n : Nat} (h : InAt w G n) : w.cell? ⟨G, 0, none⟩ = some (.int .i64 (n : Nat)) := (cell_of_row _ _ _ _ _ _ h).trans rfl
theorem InAt.fz {w : World} {G n : Nat} (h : InAt w G n) (i : Nat) : w.frozen? ⟨G, i, none⟩ = false := frozen_of_row w G i _ _ h
theorem InAt.lt {w : World} {G n : Nat} (h : InAt w G n) : G < w.heap.size := (Array.getElem?_eq_some_iff.1 h).1
set_option maxHeartbeats 400000 in
theorem newIn_any (w : World) : Calls Tryd.prog 14 #[] w (fun e w' => e = .returned (.pointer (some ⟨w.heap.size, 0, none⟩)) ∧ Below w.heap.size w w' ∧ w'.heap.size = w.heap.size + 1 ∧ InAt w' w.heap.size 0) := by
  go_enter Tryd.func14, Tryd.ntmps14
  go_wp2_with fail
  go_ret
  exact ⟨rfl, below_box _ _, by simp, heap_alloc_new _ _⟩
set_option maxHeartbeats 800000 in
theorem got_any (w : World) (G n : Nat) (s : InAt w G n) :
    Calls Tryd.prog 18 #[.pointer (some ⟨G, 0, none⟩)] w (ValP w (.int .i64 (n : Nat))) := by
  have g1 := s.c0
  clear s
  go_enter Tryd.func18, Tryd.ntmps18
  go_wp2_with fail
  go_ret
  exact ⟨rfl, 0, rfl⟩
/-! ### A copy of bytes -/
theorem infoU8c : (Tryd.prog.info? 5).map (fun i => (i.zero, i.size, i.bytes)) = some (some (.int .u8 0), 1, 1) := by kernel_rfl
/-- A copy: its bytes lie in a new block (or there are none). -/
def CloneP (w : World) (bs : Bs) (e : Ending) (w' : World) : Prop := Below w.heap.size w w' ∧ ∃ A c, e = .returned (.slice A bs.length c) ∧ w'.ownsRow w.heap.size 5 1 (.slice A bs.length c) bs.length (bvs bs)
theorem CloneP.rd {w w' : World} {A : Option Addr} {bs : Bs} {c : Nat} (h : w'.ownsRow w.heap.size 5 1 (.slice A bs.length c) bs.length (bvs bs)) : RdC (fun k => w.heap.size ≤ k ∧ k < w'.heap.size) w' A (bvs bs) := RdC.of_own h
set_option maxRecDepth 8000 in
set_option maxHeartbeats 1600000 in
theorem clone_any (w : World) (A : Option Addr) (n c : Nat) (bs : Bs) (hn : n = bs.length) (hR : RdC (· < w.heap.size) w A (bvs bs)) (hb : bs.length ≤ 100000000000000) :
    Calls Tryd.prog 60 #[.slice A n c] w (CloneP w bs) := by
  subst hn
  have hnl := fun (W : World) (a : Option Addr) (n c : Nat) => Lib.run_eql_slice_nil (P := Tryd.prog) W 31 5 a n c 0 0 Tryd.underlying31
  cases A with
  | none =>
    have h0 : bs = [] := by
      cases bs with
      | nil => rfl
      | cons b bs =>
        obtain ⟨ad, e, _⟩ := hR (by simp [bvs])
        cases e
    subst h0
    clear hR
    go_enter Tryd.func60, Tryd.ntmps60
    go_wp2_with fail
    go_ret
    exact ⟨Below.refl _ _, none, 0, rfl, rfl, .inl ⟨rfl, rfl⟩⟩
  | some ad =>
    obtain ⟨i0, hi, hz0, hz1, hz2⟩ := info_parts infoU8c
    have hown0 : (w.alloc (Obj.cells #[] 5)).ownsRow w.heap.size 5 1 (.slice (some ⟨w.heap.size, 0, none⟩) 0 0) 0 [] := World.ownsRow_lit w #[] 0 (Nat.le_refl _) (by unfold maxLen; omega) rfl
    have HO0 := Lib.hid hown0
    have HR := Lib.hid (hR.step (below_box w (Obj.cells #[] 5)))
    clear hown0 hR
    go_enter Tryd.func60, Tryd.ntmps60
    go_wp2_with (at_builtin; refine wpList_appS (ok := (· < (w.alloc (Obj.cells #[] 5)).heap.size)) _ w.heap.size (.tmp 5) (.tmp 6) 31 5 i0 (.int .u8 0) 1 1 rfl (by rfl) Tryd.underlying31 hi hz0 hz1 hz2 rfl (by omega) (by omega) _ 0 [] (by rfl) HO0.out _ bs.length _ (bvs bs) (by rfl) (by simp) HR.out (bvs_one _) (by omega) (by simp) ?_; intro v1 w1 hown1 hg1)
    obtain ⟨A1, c1, rfl, hc1, _⟩ := own_slice hown1
    go_wp2_with fail
    go_ret
    rw [Nat.zero_add, List.nil_append] at hown1
    exact ⟨(below_box w (Obj.cells #[] 5)).trans (below_of_grown hg1.by_ (by simp) (fun k hk => by have h1 : w.heap.size = k := Option.some.inj hk; omega)), A1, c1, by rw [Nat.zero_add]; rfl, hown1⟩
end Go.Proofs.YtipgimmgjdgdeaaDoor
