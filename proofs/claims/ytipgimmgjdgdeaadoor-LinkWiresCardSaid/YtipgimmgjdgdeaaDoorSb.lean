/- The scanner in memory; walks of package scan: size, next. -/
import Derived.Test.YtipgimmgjdgdeaaDoorVf
import Derived.Test.YtipgimmgjdgdeaaDoorVl
import Derived.Test.YtipgimmgjdgdeaaDoorJb
import Derived.RegionTactic
set_option linter.unusedVariables false
set_option linter.unusedSimpArgs false
set_option linter.unnecessarySimpa false
namespace Go.Proofs.YtipgimmgjdgdeaaDoor

/-- What comes next: not yet a whole frame; a wrong one; a frame of so many bytes. -/
inductive Nx where
  | wait
  | bad
  | one (f : Fr) (n : Nat)
def nxLen (b : Bs) : Nat := num (b.take 2) + 6
def nextF (b : Bs) : Nx :=
  if b.length < 2 then .wait
  else if nxLen b < 7 ∨ nxLen b > 1024 then .bad
  else if b.length < nxLen b then .wait
  else match getF (b.take (nxLen b)) with
    | none => .bad
    | some f => .one f (nxLen b)
/-- The frames, how many bytes they have; was one wrong? -/
def scanF : Nat → Bs → List Fr × Nat × Bool
  | 0, _ => ([], 0, false)
  | k + 1, b => match nextF b with
    | .wait => ([], 0, false)
    | .bad => ([], 0, true)
    | .one f n => (f :: (scanF k (b.drop n)).1, n + (scanF k (b.drop n)).2.1, (scanF k (b.drop n)).2.2)
def scanB (b : Bs) : List Fr × Nat × Bool := scanF (b.length + 1) b
/-- The first frames of b are l; they have n bytes. -/
inductive Took (b : Bs) : List Fr → Nat → Prop
  | nil : Took b [] 0
  | snoc {l : List Fr} {n m : Nat} {f : Fr} (h : Took b l n) (hn : nextF (b.drop n) = .one f m) : Took b (l ++ [f]) (n + m)
theorem nx_one {b : Bs} {f : Fr} {n : Nat} (h : nextF b = .one f n) : getF (b.take n) = some f ∧ n = nxLen b ∧ 7 ≤ n ∧ n ≤ 1024 ∧ n ≤ b.length := by
  unfold nextF at h
  split at h
  · cases h
  · split at h
    · cases h
    · split at h
      · cases h
      · split at h
        · cases h
        · injection h with h1 h2
          subst h1 h2
          rename_i h3 h4 h5 _ h6
          exact ⟨h6, rfl, by omega, by omega, by omega⟩
theorem nx_of {b : Bs} {f : Fr} (h2 : 2 ≤ b.length) (h7 : 7 ≤ nxLen b) (h10 : nxLen b ≤ 1024) (hl : nxLen b ≤ b.length) (hg : getF (b.take (nxLen b)) = some f) : nextF b = .one f (nxLen b) := by
  unfold nextF
  rw [if_neg (by omega), if_neg (by omega), if_neg (by omega), hg]
theorem nx_wait_small {b : Bs} (h : b.length < 2) : nextF b = .wait := by
  unfold nextF
  rw [if_pos h]
theorem nx_bad_len {b : Bs} (h : 2 ≤ b.length) (h2 : nxLen b < 7 ∨ nxLen b > 1024) : nextF b = .bad := by
  unfold nextF
  rw [if_neg (by omega), if_pos h2]
theorem nx_wait {b : Bs} (h : 2 ≤ b.length) (h2 : ¬ (nxLen b < 7 ∨ nxLen b > 1024)) (h3 : b.length < nxLen b) : nextF b = .wait := by
  unfold nextF
  rw [if_neg (by omega), if_neg h2, if_pos h3]
theorem nx_bad_get {b : Bs} (h : 2 ≤ b.length) (h2 : ¬ (nxLen b < 7 ∨ nxLen b > 1024)) (h3 : ¬ b.length < nxLen b) (hg : getF (b.take (nxLen b)) = none) : nextF b = .bad := by
  unfold nextF
  rw [if_neg (by omega), if_neg h2, if_neg h3, hg]
theorem nx_wait_lt {b : Bs} (h : nextF b = .wait) : b.length < 1024 := by
  unfold nextF at h
  split at h
  · omega
  · split at h
    · cases h
    · split at h
      · omega
      · split at h <;> cases h
theorem nxLen_app {b c : Bs} (h : 2 ≤ b.length) : nxLen (b ++ c) = nxLen b := by
  unfold nxLen
  rw [List.take_append_of_le_length h]
theorem nx_app_one {b : Bs} {f : Fr} {n : Nat} (c : Bs) (h : nextF b = .one f n) : nextF (b ++ c) = .one f n := by
  obtain ⟨hg, hn, h7, h10, hl⟩ := nx_one h
  have h2 : nxLen (b ++ c) = n := by rw [nxLen_app (by omega), hn]
  rw [← h2]
  refine nx_of (by simp; omega) (by omega) (by omega) (by simp; omega) ?_
  rw [h2, List.take_append_of_le_length hl]
  exact hg
theorem nx_app_bad {b : Bs} (c : Bs) (h : nextF b = .bad) : nextF (b ++ c) = .bad := by
  by_cases h2 : b.length < 2
  · rw [nx_wait_small h2] at h
    cases h
  · by_cases h3 : nxLen b < 7 ∨ nxLen b > 1024
    · exact nx_bad_len (by simp; omega) (by rw [nxLen_app (by omega)]; exact h3)
    · by_cases h4 : b.length < nxLen b
      · rw [nx_wait (by omega) h3 h4] at h
        cases h
      · refine nx_bad_get (by simp; omega) (by rw [nxLen_app (by omega)]; exact h3) (by rw [nxLen_app (by omega)]; simp; omega) ?_
        rw [nxLen_app (by omega), List.take_append_of_le_length (by omega)]
        cases hg : getF (b.take (nxLen b)) with
        | none => rfl
        | some f =>
          rw [nx_of (by omega) (by omega) (by omega) (by omega) hg] at h
          cases h
theorem Took.le {b : Bs} {l : List Fr} {n : Nat} (h : Took b l n) : n ≤ b.length ∧ 7 * l.length ≤ n := by
  induction h with
  | nil => exact ⟨Nat.zero_le _, by simp⟩
  | snoc h hn ih =>
    obtain ⟨_, _, h7, _, hl⟩ := nx_one hn
    rw [List.length_drop] at hl
    exact ⟨by omega, by simp; omega⟩
theorem Took.scan {b : Bs} {l : List Fr} {n : Nat} (h : Took b l n) : ∀ k, scanF (l.length + k) b = (l ++ (scanF k (b.drop n)).1, n + (scanF k (b.drop n)).2.1, (scanF k (b.drop n)).2.2) := by
  induction h with
  | nil => intro k; simp
  | snoc h hn ih =>
    intro k
    rename_i l n m f
    have h1 := ih (1 + k)
    rw [show (l ++ [f]).length + k = l.length + (1 + k) by simp; omega, h1]
    rw [show 1 + k = k + 1 by omega, scanF, hn]
    simp [Nat.add_assoc]
theorem scanF_wait {b : Bs} (k : Nat) (h : nextF b = .wait) : scanF (k + 1) b = ([], 0, false) := by
  rw [scanF, h]
theorem scanF_bad {b : Bs} (k : Nat) (h : nextF b = .bad) : scanF (k + 1) b = ([], 0, true) := by
  rw [scanF, h]
theorem Took.wait {b : Bs} {l : List Fr} {n : Nat} (h : Took b l n) (hw : nextF (b.drop n) = .wait) : scanB b = (l, n, false) := by
  obtain ⟨h1, h2⟩ := h.le
  have h3 := h.scan (b.length - l.length + 1)
  rw [show l.length + (b.length - l.length + 1) = b.length + 1 by omega, scanF_wait _ hw] at h3
  simpa [scanB] using h3
theorem Took.bad {b : Bs} {l : List Fr} {n : Nat} (h : Took b l n) (hw : nextF (b.drop n) = .bad) : scanB b = (l, n, true) := by
  obtain ⟨h1, h2⟩ := h.le
  have h3 := h.scan (b.length - l.length + 1)
  rw [show l.length + (b.length - l.length + 1) = b.length + 1 by omega, scanF_bad _ hw] at h3
  simpa [scanB] using h3
theorem Took.trans {b : Bs} {l l' : List Fr} {n n' : Nat} (h : Took b l n) (k : Took (b.drop n) l' n') : Took b (l ++ l') (n + n') := by
  induction k with
  | nil => simpa using h
  | snoc k hn ih =>
    rw [← List.append_assoc, ← Nat.add_assoc]
    refine .snoc ih ?_
    rw [← List.drop_drop]
    exact hn
theorem Took.app {b : Bs} {l : List Fr} {n : Nat} (c : Bs) (h : Took b l n) : Took (b ++ c) l n := by
  induction h with
  | nil => exact .nil
  | snoc h hn ih =>
    refine .snoc ih ?_
    rw [List.drop_append_of_le_length h.le.1]
    exact nx_app_one c hn
/-- Every row of bytes is taken to its end. -/
theorem took_end : ∀ (k : Nat) (b : Bs), b.length ≤ k → ∃ l n, Took b l n ∧ (nextF (b.drop n) = .wait ∨ nextF (b.drop n) = .bad)
  | k, b, hk => by
    cases h : nextF b with
    | wait => exact ⟨[], 0, .nil, .inl (by simpa using h)⟩
    | bad => exact ⟨[], 0, .nil, .inr (by simpa using h)⟩
    | one f m =>
      obtain ⟨_, _, h7, _, hl⟩ := nx_one h
      match k with
      | 0 => omega
      | k + 1 =>
        obtain ⟨l, n, ht, he⟩ := took_end k (b.drop m) (by rw [List.length_drop]; omega)
        have h1 : Took b [f] m := by
          have := Took.snoc (b := b) .nil (show nextF (b.drop 0) = .one f m by simpa using h)
          simpa using this
        refine ⟨[f] ++ l, m + n, h1.trans ht, ?_⟩
        rw [← List.drop_drop]
        exact he
theorem scan_took {b : Bs} {l : List Fr} {n : Nat} {e : Bool} (h : scanB b = (l, n, e)) : Took b l n ∧ nextF (b.drop n) = (if e = true then .bad else .wait) := by
  obtain ⟨l', n', ht, he⟩ := took_end b.length b (Nat.le_refl _)
  rcases he with he | he
  · have := ht.wait he
    rw [this] at h
    injection h with h1 h
    injection h with h2 h3
    subst h1 h2 h3
    exact ⟨ht, by simpa using he⟩
  · have := ht.bad he
    rw [this] at h
    injection h with h1 h
    injection h with h2 h3
    subst h1 h2 h3
    exact ⟨ht, by simpa using he⟩
theorem scan_of {b : Bs} {l : List Fr} {n : Nat} {e : Bool} (h : Took b l n) (hn : nextF (b.drop n) = (if e = true then .bad else .wait)) : scanB b = (l, n, e) := by
  cases e with
  | true => exact h.bad (by simpa using hn)
  | false => exact h.wait (by simpa using hn)
/-- More bytes behind a stream that is whole so far. -/
theorem scan_more {b c : Bs} {l l' : List Fr} {n n' : Nat} {e : Bool} (h : scanB b = (l, n, false)) (k : scanB (b.drop n ++ c) = (l', n', e)) : scanB (b ++ c) = (l ++ l', n + n', e) := by
  obtain ⟨h1, h2⟩ := scan_took h
  obtain ⟨k1, k2⟩ := scan_took k
  have hd : (b ++ c).drop n = b.drop n ++ c := List.drop_append_of_le_length h1.le.1
  refine scan_of ((h1.app c).trans (by rw [hd]; exact k1)) ?_
  rw [← List.drop_drop, hd]
  exact k2
theorem scan_wait_lt {b : Bs} {l : List Fr} {n : Nat} (h : scanB b = (l, n, false)) : n ≤ b.length ∧ b.length - n < 1024 := by
  obtain ⟨h1, h2⟩ := scan_took h
  have := nx_wait_lt (by simpa using h2)
  rw [List.length_drop] at this
  exact ⟨h1.le.1, this⟩
/-- The bytes of what was taken are those that the frames are written as. -/
theorem Took.puts {b : Bs} {l : List Fr} {n : Nat} (h : Took b l n) : b.take n = l.flatMap putF ∧ ∀ f ∈ l, checkF f = true := by
  induction h with
  | nil => exact ⟨by simp, by simp⟩
  | snoc h hn ih =>
    rename_i l n m f
    obtain ⟨hg, _, _, _, hl⟩ := nx_one hn
    obtain ⟨hc, hp, _⟩ := put_get hg
    refine ⟨?_, ?_⟩
    · rw [List.take_add, ih.1, List.flatMap_append, ← hp]
      simp
    · intro g hg'
      rcases List.mem_append.1 hg' with h1 | h1
      · exact ih.2 g h1
      · rw [List.mem_singleton.1 h1]
        exact hc
/-! ### Frames one behind the other -/
theorem nx_put {f : Fr} (h : checkF f = true) (hf : f.fits) (c : Bs) : nextF (putF f ++ c) = .one f (putF f).length := by
  have hbl := body_len h
  have hpl := put_len f
  have hn := put_num h
  have hx : nxLen (putF f ++ c) = (putF f).length := by
    rw [nxLen_app (by omega), nxLen, hn, hpl]; omega
  rw [← hx]
  refine nx_of (by simp; omega) (by omega) (by omega) (by simp; omega) ?_
  rw [hx, List.take_left]
  exact get_put h hf.1 hf.2
theorem nx_put_cut {f : Fr} (h : checkF f = true) (k : Nat) (hk : k < (putF f).length) : nextF ((putF f).take k) = .wait := by
  have hbl := body_len h
  have hpl := put_len f
  have hn := put_num h
  by_cases h2 : k < 2
  · exact nx_wait_small (by rw [List.length_take]; omega)
  · have hx : nxLen ((putF f).take k) = (putF f).length := by
      rw [nxLen, List.take_take, show min 2 k = 2 by omega, hn, hpl]; omega
    exact nx_wait (by rw [List.length_take]; omega) (by rw [hx]; omega) (by rw [hx, List.length_take]; omega)
theorem took_puts : ∀ (l : List Fr) (c : Bs), (∀ f ∈ l, checkF f = true ∧ f.fits) → Took (l.flatMap putF ++ c) l (l.flatMap putF).length
  | [], c, _ => by simpa using Took.nil
  | f :: l, c, h => by
    have h1 := took_puts l c (fun g hg => h g (by simp [hg]))
    have h2 := nx_put (h f (by simp)).1 (h f (by simp)).2 (l.flatMap putF ++ c)
    have h3 : Took ((f :: l).flatMap putF ++ c) [f] (putF f).length := by
      have := Took.snoc (b := (f :: l).flatMap putF ++ c) .nil (show nextF (((f :: l).flatMap putF ++ c).drop 0) = .one f (putF f).length by simpa using h2)
      simpa using this
    have h4 := h3.trans (l' := l) (n' := (l.flatMap putF).length) (by simpa using h1)
    simpa using h4
/-- Frames, and a beginning of one more. -/
theorem scan_puts (l : List Fr) (h : ∀ f ∈ l, checkF f = true ∧ f.fits) (g : Fr) (hg : checkF g = true) (k : Nat) (hk : k < (putF g).length) : scanB (l.flatMap putF ++ (putF g).take k) = (l, (l.flatMap putF).length, false) :=
  (took_puts l _ h).wait (by simpa using nx_put_cut hg k hk)
theorem scan_puts_all (l : List Fr) (h : ∀ f ∈ l, checkF f = true ∧ f.fits) : scanB (l.flatMap putF) = (l, (l.flatMap putF).length, false) := by
  have := (took_puts l [] h).wait (by rw [List.append_nil, List.drop_length]; exact nx_wait_small (by simp))
  simpa using this
end Go.Proofs.YtipgimmgjdgdeaaDoor
/- Layer 6 (scan) as plain Lean: what a scanner finds in bytes. No program. -/
set_option linter.unusedVariables false
set_option linter.unusedSimpArgs false
set_option linter.unnecessarySimpa false
namespace Go.Proofs.YtipgimmgjdgdeaaDoor
open Go.RowKit
attribute [local go_sem] run_store_flt

/-- A scanner: what it holds; is it broken? -/
structure ScanAt (base : Nat) (w : World) (G : Nat) (v : Value) (h : Bs) (br : Bool) : Prop where
  head : w.heap[G]? = some (.cells #[v, .bool br] 109 (0, 0))
  own : w.ownsRow base 5 1 v h.length (bvs h)
  le : base ≤ G
  ne : v.ownBlock ≠ some G
theorem ScanAt.lt {base : Nat} {w : World} {G : Nat} {v : Value} {h : Bs} {br : Bool} (s : ScanAt base w G v h br) : G < w.heap.size := (Array.getElem?_eq_some_iff.1 s.head).1
theorem ScanAt.on {base : Nat} {w w' : World} {G : Nat} {v : Value} {h : Bs} {br : Bool} (s : ScanAt base w G v h br) (hb : Below w.heap.size w w') : ScanAt base w' G v h br :=
  ⟨(hb.block G s.lt).trans s.head, own_below s.own hb, s.le, s.ne⟩
theorem ScanAt.c0 {base : Nat} {w : World} {G : Nat} {v : Value} {h : Bs} {br : Bool} (s : ScanAt base w G v h br) : w.cell? ⟨G, 0, none⟩ = some v := (cell_of_row _ _ _ _ _ _ s.head).trans rfl
theorem ScanAt.c1 {base : Nat} {w : World} {G : Nat} {v : Value} {h : Bs} {br : Bool} (s : ScanAt base w G v h br) : w.cell? ⟨G, 1, none⟩ = some (.bool br) := (cell_of_row _ _ _ _ _ _ s.head).trans rfl
theorem ScanAt.fz {base : Nat} {w : World} {G : Nat} {v : Value} {h : Bs} {br : Bool} (s : ScanAt base w G v h br) (i : Nat) : w.frozen? ⟨G, i, none⟩ = false := frozen_of_row w G i _ _ s.head

set_option maxRecDepth 8000 in
set_option maxHeartbeats 1600000 in
theorem size_short (base : Nat) (w : World) (G : Nat) (v : Value) (b : Bs) (br : Bool) (h : ScanAt base w G v b br) (hl : b.length < 2) :
    Calls Tryd.prog 76 #[.pointer (some ⟨G, 0, none⟩)] w (fun e w' => e = .returned (.int .i64 0) ∧ w = w') := by
  obtain ⟨A, c, rfl, _, _⟩ := own_slice h.own
  have c0 := h.c0
  have k2 : (b.length : Int) < 2 := by omega
  clear h
  go_enter Tryd.func76, Tryd.ntmps76
  go_wp2_with fail
  go_ret
  exact ⟨rfl, rfl⟩
set_option maxRecDepth 8000 in
set_option maxHeartbeats 1600000 in
theorem size_long (base : Nat) (w : World) (G : Nat) (v : Value) (b : Bs) (br : Bool) (h : ScanAt base w G v b br) (hl : 2 ≤ b.length) :
    Calls Tryd.prog 76 #[.pointer (some ⟨G, 0, none⟩)] w (fun e w' => e = .returned (.int .i64 (nxLen b : Nat)) ∧ ∃ n, w' = w.drewN n) := by
  obtain ⟨A, c, rfl, _, _⟩ := own_slice h.own
  have c0 := h.c0
  obtain ⟨ad, rfl, hadb, hcc⟩ := RdC.of_own h.own (by intro e; have : b = [] := List.map_eq_nil_iff.1 e; subst this; simp at hl)
  have hcell0 := hcc 0 _ (bvs_get b 0 (by omega))
  have hcell1 := hcc 1 _ (bvs_get b 1 (by omega))
  rw [show ad.add 0 = ad by unfold Addr.add; simp] at hcell0
  rw [show ad.add 1 = ⟨ad.block, ad.off + 1, none⟩ by unfold Addr.add; simp] at hcell1
  unfold bv at hcell0 hcell1
  have hb2 := num_two b (by omega)
  have hx0 := (b[0]'(by omega)).toNat_lt
  have hx1 := (b[1]'(by omega)).toNat_lt
  have hN := Lib.hid (show (nxLen b : Int) = ((256 * (b[0]'(by omega)).toNat + (b[1]'(by omega)).toNat + 6 : Nat) : Int) by unfold nxLen; rw [hb2])
  generalize (b[0]'(by omega)).toNat = x0 at *
  generalize (b[1]'(by omega)).toNat = x1 at *
  have k2 : ¬ (b.length : Int) < 2 := by omega
  have i0 : (0 : Int) < (b.length : Int) := by omega
  have i1 : (1 : Int) < (b.length : Int) := by omega
  have i0' : 0 < b.length := by omega
  have i1' : 1 < b.length := by omega
  have j9 : IntKind.i64.wrap (x0 : Int) = (x0 : Int) := IntWalk.i64_in _ (by omega)
  have j10 : IntKind.i64.wrap (x1 : Int) = (x1 : Int) := IntWalk.i64_in _ (by omega)
  have j7 : IntKind.i64.wrap ((x0 : Int) * 256) = (x0 : Int) * 256 := IntWalk.i64_in _ (by omega)
  have j8 : IntKind.i64.wrap ((x0 : Int) * 256 + (x1 : Int)) = (x0 : Int) * 256 + (x1 : Int) := IntWalk.i64_in _ (by omega)
  have j6 : IntKind.i64.wrap ((x0 : Int) * 256 + (x1 : Int) + 6) = (x0 : Int) * 256 + (x1 : Int) + 6 := IntWalk.i64_in _ (by omega)
  clear h hcc hadb hb2
  go_enter Tryd.func76, Tryd.ntmps76
  go_wp2_with fail
  go_quiet (fail)
  go_wp2_with fail
  go_ret
  refine ⟨congrArg (fun z => Ending.returned (.int .i64 z)) ?_, _, rfl⟩
  rw [hN.out]
  omega
/-- What next answers. -/
def NextP (es : Er → Addr) (w : World) (G : Nat) (b : Bs) (e : Ending) (w' : World) : Prop :=
  match nextF b with
  | .wait => e = .returned (.tuple #[frV (Fr.of 0) none 0, .bool false, .nilIface]) ∧ Below w.heap.size w w'
  | .bad => e = .returned (.tuple #[frV (Fr.of 0) none 0, .bool false, errV (es .frame)]) ∧ Below w.heap.size w w'
  | .one f n => ∃ A c v', e = .returned (.tuple #[frV f A c, .bool true, .nilIface]) ∧ RdC (fun k => w.heap.size ≤ k ∧ k < w'.heap.size) w' A (bvs f.bytes) ∧ Chg (· = G) w w' ∧ w'.heap[G]? = some (.cells #[v', .bool false] 109 (0, 0)) ∧
      w'.ownsRow w.heap.size 5 1 v' (b.drop n).length (bvs (b.drop n))
theorem next_ret {Q : Ending → World → Prop} {w W3 : World} {g : Fr} {A : Option Addr} {K : Nat} {r : Bool} {ev : Value} {tmps : Array Value} (h0 : W3.heap[w.heap.size]? = some (.cells (frCs (Fr.of 0) none 0) 33 (0, 0)))
    (ht : tmps[2]? = some (.pointer (some ⟨w.heap.size, 0, none⟩))) (h3 : tmps[3]? = some (.bool r)) (h4 : tmps[4]? = some ev) (hR : Q (.returned (.tuple #[frV g A K, .bool r, ev])) (frPut W3 w.heap.size g A K)) :
    bodyPost Tryd.prog Tryd.f71 Q .ret { tmps := tmps, defers := [] } (frPut W3 w.heap.size g A K) := by
  have hfin : ∀ i : Nat, (frPut W3 w.heap.size g A K).cell? ⟨w.heap.size, i, none⟩ = (frCs g A K)[i]? := fun i =>
    cell_of_row _ _ _ _ _ _ (frPut_heap (f := Fr.of 0) (A0 := none) (c0 := 0) h0)
  have d0 := (hfin 0).trans (show _ = some (.int .i64 g.kind) from rfl)
  have d1 := (hfin 1).trans (show _ = some (.int .i64 g.seq) from rfl)
  have d2 := (hfin 2).trans (show _ = some (.int .i64 g.got) from rfl)
  have d3 := (hfin 3).trans (show _ = some (.int .i64 g.stream) from rfl)
  have d4 := (hfin 4).trans (show _ = some (.int .i64 g.amount) from rfl)
  have d5 := (hfin 5).trans (show _ = some (.int .i64 g.code) from rfl)
  have d6 := (hfin 6).trans (show _ = some (.string g.who) from rfl)
  have d7 := (hfin 7).trans (show _ = some (.string g.name) from rfl)
  have d8 := (hfin 8).trans (show _ = some (.float .f64 g.weight) from rfl)
  have d9 := (hfin 9).trans (show _ = some (.slice A g.bytes.length K) from rfl)
  clear hfin
  refine bodyPost_ret (v := .tuple #[frV g A K, .bool r, ev]) ?_ rfl hR
  simp [results, Tryd.results71, go_sem, ht, h3, h4, d0, d1, d2, d3, d4, d5, d6, d7, d8, d9, frV]
theorem NextP.wait {es : Er → Addr} {w w' : World} {G : Nat} {b : Bs} (h : nextF b = .wait) (hb : Below w.heap.size w w') : NextP es w G b (.returned (.tuple #[frV (Fr.of 0) none 0, .bool false, .nilIface])) w' := by
  unfold NextP; rw [h]; exact ⟨rfl, hb⟩
theorem NextP.bad {es : Er → Addr} {w w' : World} {G : Nat} {b : Bs} (h : nextF b = .bad) (hb : Below w.heap.size w w') : NextP es w G b (.returned (.tuple #[frV (Fr.of 0) none 0, .bool false, errV (es .frame)])) w' := by
  unfold NextP; rw [h]; exact ⟨rfl, hb⟩
set_option maxRecDepth 8000 in
set_option maxHeartbeats 3200000 in
theorem next_short (es : Er → Addr) (base : Nat) (w : World) (G : Nat) (v : Value) (b : Bs) (br : Bool) (h : ScanAt base w G v b br) (hl : b.length < 2) :
    Calls Tryd.prog 71 #[.pointer (some ⟨G, 0, none⟩)] w (NextP es w G b) := by
  have hsz := size_short base (w.alloc (Obj.cells #[.int .i64 0, .int .i64 0, .int .i64 0, .int .i64 0, .int .i64 0, .int .i64 0, .string ⟨#[]⟩, .string ⟨#[]⟩, .float .f64 0, .slice none 0 0] 33)) G v b br (h.on (below_box _ _)) hl
  have HSz := Lib.hid hsz
  have HN := Lib.hid (nx_wait_small hl)
  clear hsz h
  go_enter Tryd.func71, Tryd.ntmps71
  go_wp2_with fail
  refine HSz.out.mono ?_
  rintro e w1 ⟨rfl, rfl⟩
  go_wp2_with fail
  exact bodyPost_ret (v := .tuple #[frV (Fr.of 0) none 0, .bool false, .nilIface]) (by simp [results, Tryd.results71, go_sem, frV, Fr.of, noS]) rfl (NextP.wait HN.out (by repeat (first | exact Below.refl _ _ | refine Below.alloc ?_ (Nat.le_refl _) _ | refine Below.setCell ?_ (by simp) _)))
end Go.Proofs.YtipgimmgjdgdeaaDoor
