/- Walks of package fields, third part: Encode, Size. -/
import Derived.Test.YtipgimmgjdgdeaaDoorFx
set_option linter.unusedVariables false
set_option linter.unusedSimpArgs false
set_option linter.unnecessarySimpa false
namespace Go.Proofs.YtipgimmgjdgdeaaDoor
open Go.RowKit
attribute [local go_sem] run_store_flt

def cellVs (c : Cell) : List Value := [.int .i64 c.n, .float .f64 c.f, .string c.s]
def EncPost (es : Er → Addr) (w : World) (r : Except Er Bs) (e : Ending) (w' : World) : Prop :=
  Below w.heap.size w w' ∧ match r with
  | .ok bs => ∃ v', e = .returned (.tuple #[v', .nilIface]) ∧ w'.ownsRow w.heap.size 5 1 v' bs.length (bvs bs)
  | .error er => e = .returned (.tuple #[.slice none 0 0, errV (es er)])

theorem encAll_snoc : ∀ (ls : Bs) (cs : List Cell) (k : Nat) (acc b : Bs) (h1 : k < ls.length) (h2 : k < cs.length), encAll (ls.take k) (cs.take k) = .ok acc → encCell ls[k] cs[k] = .ok b →
    encAll (ls.take (k + 1)) (cs.take (k + 1)) = .ok (acc ++ b)
  | [], _, _, _, _, h, _, _, _ => absurd h (by simp)
  | _ :: _, [], _, _, _, _, h, _, _ => absurd h (by simp)
  | l :: ls, c :: cs, 0, acc, b, _, _, h, hb => by
    simp only [List.take_zero, encAll, Except.ok.injEq] at h
    subst h
    simp only [List.getElem_cons_zero] at hb
    simp [encAll, hb, Except.bind, Except.map]
  | l :: ls, c :: cs, k + 1, acc, b, h1, h2, h, hb => by
    simp only [List.take_succ_cons, encAll] at h ⊢
    simp only [List.getElem_cons_succ] at hb
    cases hc : encCell l c with
    | error e => rw [hc] at h; cases h
    | ok a =>
      rw [hc] at h
      simp only [Except.bind] at h ⊢
      cases hr : encAll (ls.take k) (cs.take k) with
      | error e => rw [hr] at h; cases h
      | ok r =>
        rw [hr] at h
        simp only [Except.map, Except.ok.injEq] at h
        subst h
        rw [encAll_snoc ls cs k r b (by simpa using h1) (by simpa using h2) hr hb]
        simp [Except.map]
theorem encAll_stop : ∀ (ls : Bs) (cs : List Cell) (k : Nat) (acc : Bs) (er : Er) (h1 : k < ls.length) (h2 : k < cs.length), encAll (ls.take k) (cs.take k) = .ok acc → encCell ls[k] cs[k] = .error er →
    encAll ls cs = .error er
  | [], _, _, _, _, h, _, _, _ => absurd h (by simp)
  | _ :: _, [], _, _, _, _, h, _, _ => absurd h (by simp)
  | l :: ls, c :: cs, 0, acc, er, _, _, h, hb => by
    simp only [List.getElem_cons_zero] at hb
    simp [encAll, hb, Except.bind]
  | l :: ls, c :: cs, k + 1, acc, er, h1, h2, h, hb => by
    simp only [List.take_succ_cons, encAll] at h ⊢
    simp only [List.getElem_cons_succ] at hb
    cases hc : encCell l c with
    | error e => rw [hc] at h; cases h
    | ok a =>
      rw [hc] at h
      simp only [Except.bind] at h ⊢
      cases hr : encAll (ls.take k) (cs.take k) with
      | error e => rw [hr] at h; cases h
      | ok r => rw [encAll_stop ls cs k r er (by simpa using h1) (by simpa using h2) hr hb]; rfl
/-- How many bytes cells may take. -/
def cost (cells : List Cell) : Nat := (cells.map fun c => 8 + c.s.size).sum
theorem cost_take (cells : List Cell) (k : Nat) (h : k < cells.length) : cost (cells.take k) + (8 + cells[k].s.size) ≤ cost cells := by
  have e : cells.take (k + 1) = cells.take k ++ [cells[k]] := List.take_succ_eq_append_getElem h
  have e2 : cost cells = cost (cells.take (k + 1)) + cost (cells.drop (k + 1)) := by
    unfold cost
    rw [← List.sum_append, ← List.map_append, List.take_append_drop]
  rw [e2, e]
  unfold cost
  rw [List.map_append, List.sum_append]
  simp only [List.map_cons, List.map_nil, List.sum_cons, List.sum_nil]
  omega
theorem encCell_len {l : UInt8} {c : Cell} {b : Bs} (h : encCell l c = .ok b) : b.length ≤ 8 + c.s.size := by
  have hw := width_le l
  unfold encCell at h
  split at h
  · cases h; simp
  · split at h
    · split at h
      · cases h
      · cases h
        have : c.s.data.size = c.s.size := rfl
        simp [this]; omega
    · split at h
      · cases h
      · cases h; simp; omega
theorem encAll_len : ∀ (ls : Bs) (cs : List Cell) (acc : Bs), encAll ls cs = .ok acc → acc.length ≤ cost cs
  | [], cs, acc, h => by cases cs <;> (simp only [encAll, Except.ok.injEq] at h; subst h; simp)
  | _ :: _, [], acc, h => by simp only [encAll, Except.ok.injEq] at h; subst h; simp
  | l :: ls, c :: cs, acc, h => by
    simp only [encAll] at h
    cases hc : encCell l c with
    | error e => rw [hc] at h; cases h
    | ok a =>
      rw [hc] at h
      simp only [Except.bind] at h
      cases hr : encAll ls cs with
      | error e => rw [hr] at h; cases h
      | ok r =>
        rw [hr] at h
        simp only [Except.map, Except.ok.injEq] at h
        subst h
        have h1 := encCell_len hc
        have h2 := encAll_len ls cs r hr
        have h3 : cost (c :: cs) = 8 + c.s.size + cost cs := by simp [cost]
        rw [List.length_append, h3]; omega
/-- Element k of a row of cells. -/
theorem cells_at {ok : Nat → Prop} {w : World} {A : Option Addr} {cells : List Cell} (h : RdC ok w A (cells.flatMap cellVs)) (k : Nat) (hk : k < cells.length) :
    ∃ ad, A = some ad ∧ ok ad.block ∧ w.cell? (ad.add (k * 3)) = some (.int .i64 cells[k].n) ∧ w.cell? ⟨(ad.add (k * 3)).block, (ad.add (k * 3)).off + 1, none⟩ = some (.float .f64 cells[k].f) ∧ w.cell? ⟨(ad.add (k * 3)).block, (ad.add (k * 3)).off + 2, none⟩ = some (.string cells[k].s) := by
  have key : ∀ (cells : List Cell) (k : Nat) (hk : k < cells.length) (j : Nat), j < 3 → (cells.flatMap cellVs)[k * 3 + j]? = (cellVs cells[k])[j]? := by
    intro cells
    induction cells with
    | nil => intro k hk; simp at hk
    | cons c cs ih =>
      intro k hk j hj
      have hl : (cellVs c).length = 3 := rfl
      cases k with
      | zero => rw [List.flatMap_cons, List.getElem?_append_left (by omega)]; simp
      | succ k =>
        rw [List.flatMap_cons, List.getElem?_append_right (by rw [hl]; omega), hl, show (k + 1) * 3 + j - 3 = k * 3 + j from by omega, ih k (by simpa using hk) j hj]
        simp
  obtain ⟨ad, e, hb, hc⟩ := h (by
    intro e
    have := key cells k hk 0 (by omega)
    rw [e] at this
    simp [cellVs] at this)
  refine ⟨ad, e, hb, ?_, ?_, ?_⟩
  · exact hc (k * 3) _ (by have := key cells k hk 0 (by omega); simpa [cellVs] using this)
  · rw [← add_field _ _ _ (by omega)]; exact hc (k * 3 + 1) _ (by have := key cells k hk 1 (by omega); simpa [cellVs] using this)
  · rw [← add_field _ _ _ (by omega)]; exact hc (k * 3 + 2) _ (by have := key cells k hk 2 (by omega); simpa [cellVs] using this)

set_option maxRecDepth 8000 in
set_option maxHeartbeats 400000 in
theorem encode_loop (es : Er → Addr) (w : World) (s : ByteArray) (A : Option Addr) (cap : Nat) (cells : List Cell) (hE : E3 w.heap.size w es)
    (hR : RdC (· < w.heap.size) w A (cells.flatMap cellVs)) (hk : known s.data.toList = true) (hn : cells.length = s.size) (hs : s.size ≤ maxLen)
    (hcost : cost cells ≤ 140737488355328) (hnum : ∀ c ∈ cells, c.n ≤ 9223372036854775807) :
    Calls Tryd.prog 72 #[.string s, .slice A s.size cap] w (EncPost es w (encAll s.data.toList cells)) := by
  have hs' := hs
  unfold maxLen at hs'
  have HN := Lib.hid hn
  have HM := Lib.hid hnum
  have hll : s.data.toList.length = s.size := Array.length_toList
  have HL := Lib.hid hll
  clear hn hnum hll
  go_enter Tryd.func72, Tryd.ntmps72
  go_wp2_with (first
    | (go_at_call 78; refine (known_any s _ hs).mono ?_; rintro e w' ⟨rfl, rfl⟩))
  go_loopw [6, 7, 23] (fun b er i wr => ∃ (k : Nat) (acc : Bs), k ≤ s.size ∧ i = .int .i64 k ∧ er = .nilIface ∧ wr.ownsRow w.heap.size 5 1 b acc.length (bvs acc) ∧ Below w.heap.size w wr ∧
      encAll (s.data.toList.take k) (cells.take k) = .ok acc) (fun _ _ i _ => s.size - (intOf i).toNat)
  case atStart => exact ⟨0, [], Nat.zero_le _, rfl, rfl, World.ownsRow_nil _ _ _ _, Below.refl _ _, by simp [encAll]⟩
  case round =>
    obtain ⟨k, acc, hk1, rfl, rfl, hown, hbel, hacc⟩ := hrel
    have HA := Lib.hid hacc
    clear hacc
    by_cases hlt : k < s.size
    · have hkc : k < cells.length := by rw [HN.out]; exact hlt
      have hkl : k < s.data.toList.length := by rw [HL.out]; exact hlt
      obtain ⟨ad, rfl, hadb, h0, h1, h2⟩ := cells_at hR k hkc
      generalize hck : cells[k] = c at h0 h1 h2
      have HC := Lib.hid hck
      clear hck
      have hz := hbel.size
      have g0 := (hbel.cell (p := ad.add (k * 3)) (by rw [add_block]; exact hadb)).trans h0
      have g1 := (hbel.cell (p := ⟨(ad.add (k * 3)).block, (ad.add (k * 3)).off + 1, none⟩) (by show (ad.add (k * 3)).block < _; rw [add_block]; exact hadb)).trans h1
      have g2 := (hbel.cell (p := ⟨(ad.add (k * 3)).block, (ad.add (k * 3)).off + 2, none⟩) (by show (ad.add (k * 3)).block < _; rw [add_block]; exact hadb)).trans h2
      clear h0 h1 h2
      have i0 : (0 : Int) ≤ (k : Int) := by omega
      have i1 : (k : Int) < (s.size : Int) := by omega
      have hc63 : c.n ≤ 9223372036854775807 := by rw [← HC.out]; exact HM.out _ (List.getElem_mem hkc)
      have hlen1 : acc.length + (8 + c.s.size) ≤ 140737488355328 := by
        have h1 := encAll_len _ _ _ HA.out
        have h2 := cost_take cells k hkc
        rw [HC.out] at h2
        omega
      have hE2 : E3 w.heap.size wr es := hE.below hbel
      have hnb := own_lt hown
      have HBel := Lib.hid hbel
      have HOwn := Lib.hid hown
      clear hbel hown
      cases he : encCell s[k] c with
      | ok b =>
        have HEn := Lib.hid he
        have HCell : ∀ W : World, Below wr.heap.size wr W → Calls Tryd.prog 79 #[u6, bv s[k], cellV c] W (CellPost es W w.heap.size u6 acc (.ok b)) := fun W hW => by
          rw [← HEn.out]
          exact cell_any es W w.heap.size w.heap.size u6 acc s[k] c (hE2.below ⟨hW.os, hW.tape, hW.output, hW.size, fun i hi => hW.block i (by omega)⟩) (by have := hW.size; omega) (own_below HOwn.out hW) (by have := hW.size; omega) hlen1 hc63
        have HCl := Lib.hid HCell
        clear he HCell
        go_wp2_with fail
        go_region_held3 (fun w' => w'.cell? ⟨wr.heap.size, 0, none⟩ = some (.int .i64 c.n) ∧ w'.cell? ⟨wr.heap.size, 1, none⟩ = some (.float .f64 c.f) ∧ w'.cell? ⟨wr.heap.size, 2, none⟩ = some (.string c.s))
          (first | go_keep | exact ⟨hg2.cell (by simp) hnb, hg2.cell (by simp) hnb, hg2.cell (by simp) hnb⟩)
          ((go_at_call 79; refine (HCl.out _ (by first | exact ((Below.refl _ _).alloc (Nat.le_refl _) _).drew)).mono ?_; rintro e w' ⟨v', rfl, hown2, hg2⟩))
        have hbel2 : Below w.heap.size w w' := hg2.below ((HBel.out.alloc hz _).drew) (by simp; omega) (own_base HOwn.out)
        have hacc2 : encAll (s.data.toList.take (k + 1)) (cells.take (k + 1)) = .ok (acc ++ b) := encAll_snoc _ _ k acc b hkl hkc HA.out (by rw [HC.out]; exact HEn.out)
        have HX := Lib.hid hacc2
        clear hg2 hacc2
        go_wp2
        go_roundw
        case rel => exact ⟨k + 1, acc ++ b, by omega, by go_num, rfl, hown2, hbel2, HX.out⟩
        case measure => simp [intOf]; omega
      | error er =>
        have HEn := Lib.hid he
        have HCell : ∀ W : World, Below wr.heap.size wr W → Calls Tryd.prog 79 #[u6, bv s[k], cellV c] W (CellPost es W w.heap.size u6 acc (.error er)) := fun W hW => by
          rw [← HEn.out]
          exact cell_any es W w.heap.size w.heap.size u6 acc s[k] c (hE2.below ⟨hW.os, hW.tape, hW.output, hW.size, fun i hi => hW.block i (by omega)⟩) (by have := hW.size; omega) (own_below HOwn.out hW) (by have := hW.size; omega) hlen1 hc63
        have HCl := Lib.hid HCell
        clear he HCell
        go_wp2_with fail
        go_region_held3 (fun w' => w'.cell? ⟨wr.heap.size, 0, none⟩ = some (.int .i64 c.n) ∧ w'.cell? ⟨wr.heap.size, 1, none⟩ = some (.float .f64 c.f) ∧ w'.cell? ⟨wr.heap.size, 2, none⟩ = some (.string c.s))
          (first | go_keep | exact ⟨(hb2.cell (by simp)).trans (by simp), (hb2.cell (by simp)).trans (by simp), (hb2.cell (by simp)).trans (by simp)⟩)
          ((go_at_call 79; refine (HCl.out _ (by first | exact ((Below.refl _ _).alloc (Nat.le_refl _) _).drew)).mono ?_; rintro e w' ⟨rfl, hb2⟩))
        have hbel2 : Below w.heap.size w w' := below_then ((HBel.out.alloc hz _).drew) (by simp; omega) hb2
        clear hb2
        unfold errV
        go_wp2
        go_ret2
        refine ⟨hbel2, ?_⟩
        rw [encAll_stop _ _ k acc er hkl hkc HA.out (by rw [HC.out]; exact HEn.out)]
        rfl
    · go_wp2
      go_ret2
      refine ⟨hbel, ?_⟩
      have h1 := HA.out
      rw [List.take_of_length_le (by rw [HL.out]; omega), List.take_of_length_le (by rw [HN.out]; omega)] at h1
      rw [h1]
      exact ⟨_, rfl, hown⟩

set_option maxRecDepth 8000 in
set_option maxHeartbeats 400000 in
theorem encode_bad (es : Er → Addr) (w : World) (s : ByteArray) (A : Option Addr) (n cap : Nat) (hE : E3 w.heap.size w es) (hk : known s.data.toList = false ∨ n ≠ s.size) (hs : s.size ≤ maxLen) (hn : n ≤ maxLen) :
    Calls Tryd.prog 72 #[.string s, .slice A n cap] w (EncPost es w (.error .state)) := by
  obtain ⟨hg, _, hc, _⟩ := hE.state
  unfold maxLen at hn
  cases hkn : known s.data.toList with
  | false =>
    go_enter Tryd.func72, Tryd.ntmps72
    go_wp2_with (first
      | (go_at_call 78; refine (known_any s _ hs).mono ?_; rintro e w' ⟨rfl, rfl⟩))
    go_quiet (fail)
    go_wp2
    go_ret2
    exact ⟨below_drewN (Below.refl _ _) _, rfl⟩
  | true =>
    have hne : n ≠ s.size := by
      rcases hk with h | h
      · rw [hkn] at h; cases h
      · exact h
    have hneq : ((n : Int) != (s.size : Int)) = true := by rw [bne_iff_ne]; omega
    clear hk
    go_enter Tryd.func72, Tryd.ntmps72
    go_wp2_with (first
      | (go_at_call 78; refine (known_any s _ hs).mono ?_; rintro e w' ⟨rfl, rfl⟩))
    go_quiet (fail)
    go_wp2
    go_ret2
    exact ⟨below_drewN (Below.refl _ _) _, rfl⟩

/-- Encode of every layout and cells. -/
theorem encode_any (es : Er → Addr) (w : World) (s : ByteArray) (A : Option Addr) (n cap : Nat) (cells : List Cell) (hn : n = cells.length) (hE : E3 w.heap.size w es)
    (hR : RdC (· < w.heap.size) w A (cells.flatMap cellVs)) (hs : s.size ≤ maxLen) (hcl : cells.length ≤ maxLen)
    (hcost : cost cells ≤ 140737488355328) (hnum : ∀ c ∈ cells, c.n ≤ 9223372036854775807) :
    Calls Tryd.prog 72 #[.string s, .slice A n cap] w (EncPost es w (encode s.data.toList cells)) := by
  subst hn
  unfold encode
  have hll : s.data.toList.length = s.size := Array.length_toList
  by_cases h : known s.data.toList = false ∨ cells.length ≠ s.data.toList.length
  · rw [if_pos h]
    exact encode_bad es w s A _ cap hE (by rw [hll] at h; exact h) hs hcl
  · rw [if_neg h]
    have h1 : known s.data.toList = true := by
      cases hk : known s.data.toList with
      | true => rfl
      | false => exact absurd (.inl hk) h
    have h2 : cells.length = s.size := by
      rcases Nat.decEq cells.length s.data.toList.length with h3 | h3
      · exact absurd (.inr h3) h
      · rw [h3, hll]
    rw [h2]
    exact encode_loop es w s A cap cells hE hR h1 h2 hs hcost hnum
end Go.Proofs.YtipgimmgjdgdeaaDoor
