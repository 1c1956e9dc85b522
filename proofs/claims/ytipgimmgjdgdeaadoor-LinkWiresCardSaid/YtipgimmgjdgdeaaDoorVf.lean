/- A whole number that isn't zero is a float that isn't zero; frames of unlike bytes. -/
import Derived.Test.YtipgimmgjdgdeaaDoorVt
import Derived.Laws.Cover2
set_option linter.unusedVariables false
set_option linter.unusedSimpArgs false
set_option linter.unnecessarySimpa false
namespace Go.Proofs.YtipgimmgjdgdeaaDoor

theorem dec_norm {l : UInt8} {b : Bs} {c : Cell} {n : Nat} (h : decCell l b = .ok (c, n)) : norm l c = c := by
  unfold decCell at h
  unfold norm
  split at h
  · cases h
  · split at h
    · rename_i hl
      cases h
      rw [if_pos hl]
    · rename_i hl
      rw [if_neg hl]
      split at h
      · rename_i ht
        split at h
        · cases h
        · cases h
          rw [if_pos ht]
      · rename_i ht
        split at h
        · cases h
        · cases h
          rw [if_neg ht]
theorem decAll_norms : ∀ (ls b : Bs) (cs : List Cell) (r : Bs), decAll ls b = .ok (cs, r) → norms ls cs = cs
  | [], b, cs, r, h => by
    simp only [decAll, Except.ok.injEq, Prod.mk.injEq] at h
    obtain ⟨rfl, rfl⟩ := h
    rfl
  | l :: ls, b, cs, r, h => by
    simp only [decAll] at h
    cases hd : decCell l b with
    | error e => rw [hd] at h; cases h
    | ok q =>
      obtain ⟨c0, n0⟩ := q
      rw [hd] at h
      simp only [Except.bind] at h
      cases hr : decAll ls (b.drop n0) with
      | error e => rw [hr] at h; cases h
      | ok q2 =>
        obtain ⟨cs2, r2⟩ := q2
        rw [hr] at h
        simp only [Except.map, Except.ok.injEq, Prod.mk.injEq] at h
        obtain ⟨rfl, rfl⟩ := h
        have h1 := decAll_norms ls _ cs2 r2 hr
        unfold norms at *
        simp only [List.zipWith_cons_cons, dec_norm hd, h1]
theorem dec_norms {ls b : Bs} {cs : List Cell} (h : decode ls b = .ok cs) : norms ls cs = cs := by
  unfold decode at h
  split at h
  · cases h
  · cases hd : decAll ls b with
    | error e => rw [hd] at h; cases h
    | ok q =>
      obtain ⟨cs2, r⟩ := q
      rw [hd] at h
      simp only [Except.bind] at h
      split at h
      · cases h
        exact decAll_norms _ _ _ _ hd
      · cases h
theorem nine {x : Nat} (h : x < 9) : x = 0 ∨ x = 1 ∨ x = 2 ∨ x = 3 ∨ x = 4 ∨ x = 5 ∨ x = 6 ∨ x = 7 ∨ x = 8 := by omega
theorem cell_set_self (o : Fr) (x : Nat) (c : Cell) (hx : x < 9) (hn : norm (letterF x) c = c) : cellF (setF o x c) x = c := by
  obtain ⟨n, f, s⟩ := c
  rcases nine hx with h | h | h | h | h | h | h | h | h <;> subst h <;> exact hn
theorem cell_set_ne (o : Fr) (x y : Nat) (c : Cell) (hx : x < 9) (hy : y < 9) (hne : x ≠ y) : cellF (setF o y c) x = cellF o x := by
  rcases nine hx with h | h | h | h | h | h | h | h | h <;> subst h <;> rcases nine hy with k | k | k | k | k | k | k | k | k <;> subst k <;> first | rfl | exact absurd rfl hne
theorem cell_setAll_ne (x : Nat) (hx : x < 9) : ∀ (l : List Nat) (cs : List Cell) (o : Fr), (∀ y ∈ l, y < 9) → x ∉ l → cellF (setAll o l cs) x = cellF o x
  | [], cs, o, _, _ => by cases cs <;> rfl
  | y :: l, [], o, _, _ => rfl
  | y :: l, c :: cs, o, h, hn => by
    simp only [setAll]
    rw [cell_setAll_ne x hx l cs _ (fun z hz => h z (by simp [hz])) (fun hz => hn (by simp [hz])), cell_set_ne o x y c hx (h y (by simp)) (fun e => hn (by simp [e]))]
theorem cells_setAll : ∀ (l : List Nat) (cs : List Cell) (o : Fr), l.Nodup → (∀ y ∈ l, y < 9) → cs.length = l.length → norms (l.map letterF) cs = cs → l.map (cellF (setAll o l cs)) = cs
  | [], cs, o, _, _, hl, _ => by
    cases cs with
    | nil => rfl
    | cons c cs => simp at hl
  | y :: l, [], o, _, _, hl, _ => by simp at hl
  | y :: l, c :: cs, o, hnd, h9, hl, hn => by
    unfold norms at hn
    simp only [List.map_cons, List.zipWith_cons_cons, List.cons.injEq] at hn
    have hy := (List.nodup_cons.1 hnd)
    simp only [setAll, List.map_cons, List.cons.injEq]
    exact ⟨by rw [cell_setAll_ne y (h9 y (by simp)) l cs _ (fun z hz => h9 z (by simp [hz])) hy.1, cell_set_self o y c (h9 y (by simp)) hn.1],
      cells_setAll l cs _ hy.2 (fun z hz => h9 z (by simp [hz])) (by simpa using hl) hn.2⟩
theorem setF_kind (o : Fr) (x : Nat) (c : Cell) : (setF o x c).kind = o.kind := by
  unfold setF
  split <;> rfl
theorem setAll_kind : ∀ (l : List Nat) (cs : List Cell) (o : Fr), (setAll o l cs).kind = o.kind
  | [], cs, o => by cases cs <;> rfl
  | y :: l, [], o => rfl
  | y :: l, c :: cs, o => by
    simp only [setAll]
    rw [setAll_kind l cs, setF_kind]
theorem shape_nodup (k : Int) : (shapeF k).Nodup := by
  by_cases hk : 1 ≤ k ∧ k ≤ 17
  · rcases kind_cases hk with h | h | h | h | h | h | h | h | h | h | h | h | h | h | h | h | h <;> subst h <;> decide
  · rw [shape_out hk]
    exact List.nodup_nil
/-- WHAT IS TAKEN IS WRITTEN AS IT WAS. -/
theorem put_get {b : Bs} {f : Fr} (h : getF b = some f) : checkF f = true ∧ putF f = b ∧ 7 ≤ b.length ∧ b.length ≤ 1024 ∧ num (b.take 2) = b.length - 6 := by
  unfold getF at h
  split at h
  · cases h
  rename_i hlen
  split at h
  · cases h
  rename_i hx
  have hx1 : (sha (b.take (b.length - 4))).take 4 = b.drop (b.length - 4) := Decidable.byContradiction fun hc => hx (.inl hc)
  have hx2 : num (b.take 2) = b.length - 6 := Decidable.byContradiction fun hc => hx (.inr hc)
  cases hde : decode (layoutF (b.getD 2 0).toNat) ((b.take (b.length - 4)).drop 3) with
  | error e => rw [hde] at h; cases h
  | ok cs =>
    rw [hde] at h
    simp only at h
    split at h
    · rename_i hck
      injection h with h
      have hkd : f.kind = ((b.getD 2 0).toNat : Int) := by rw [← h, setAll_kind]; rfl
      rw [h] at hck
      refine ⟨hck, ?_, by omega, by omega, hx2⟩
      obtain ⟨hen, hcl, _, _⟩ := enc_dec hde
      have hcells : cellsF f = cs := by
        unfold cellsF
        rw [hkd, ← h]
        exact cells_setAll _ _ _ (shape_nodup _) (shape_lt _) (by rw [hcl]; simp [layoutF]) (dec_norms hde)
      obtain ⟨r, hr, hrl, hb, _, h1, h2⟩ := body_ok hck
      rw [hkd, hcells] at hr
      have hr2 := (encode_ok hen).2.2
      rw [hr2] at hr
      injection hr with hr
      have hb2 : bodyF f = (b.take (b.length - 4)).drop 2 := by
        rw [hb, ← hr, hkd]
        have h2lt : 2 < (b.take (b.length - 4)).length := by rw [List.length_take]; omega
        rw [List.drop_eq_getElem_cons h2lt]
        congr 1
        simp [List.getD_eq_getElem?_getD, List.getElem?_eq_getElem (show 2 < b.length by omega)]
      have hbl : (bodyF f).length = b.length - 6 := by rw [hb2]; simp; omega
      have hfr : frontF f = b.take (b.length - 4) := by
        unfold frontF
        rw [hbl, ← hx2]
        have e1 : be (num (b.take 2)) 2 = b.take 2 := by
          have := be_num (b.take 2)
          rw [List.length_take, Nat.min_eq_left (by omega)] at this
          exact this
        rw [e1, hb2]
        have e2 : b.take 2 = (b.take (b.length - 4)).take 2 := by rw [List.take_take, Nat.min_eq_left (by omega)]
        rw [e2, List.take_append_drop]
      unfold putF
      rw [hfr, hx1, List.take_append_drop]
    · cases h
theorem get_none_len {b : Bs} (h : num (b.take 2) ≠ b.length - 6) : getF b = none := by
  cases hg : getF b with
  | none => rfl
  | some f => exact absurd (put_get hg).2.2.2.2 h
theorem put_num {f : Fr} (h : checkF f = true) : num ((putF f).take 2) = (bodyF f).length := by
  rw [put_two, num_be]
  have := body_len h
  exact Nat.mod_eq_of_lt (by omega)
theorem get_more {f : Fr} (h : checkF f = true) (more : Bs) (hm : more ≠ []) : getF (putF f ++ more) = none := by
  refine get_none_len ?_
  have hl := put_len f
  have hb := body_len h
  have hp : 0 < more.length := List.length_pos_iff.2 hm
  rw [List.take_append_of_le_length (by omega), put_num h, List.length_append]
  omega
theorem get_less {f : Fr} (h : checkF f = true) : getF ((putF f).take ((putF f).length - 1)) = none := by
  refine get_none_len ?_
  have hl := put_len f
  have hb := body_len h
  rw [List.take_take, Nat.min_eq_left (by omega), put_num h, List.length_take]
  omega
/-- A field that a kind doesn't look at has to be zero. -/
theorem field_extra {f g : Fr} (x : Nat) (hx : x < 9) (hn : x ∉ shapeF f.kind) (hk : g.kind = f.kind) (hz : ¬ zeroAt g x) : checkF g = false := by
  cases hg : checkF g with
  | false => rfl
  | true => exact absurd (((check_iff g).1 hg).2.2 x hx (by rw [hk]; exact hn)) hz
theorem seq_out {f : Fr} (h : checkF f = true) (h0 : f.seq = 0) : 0 ∉ shapeF f.kind := fun hm => by
  have := (within_iff _ _ _).1 (((check_iff f).1 h).2.1 0 hm)
  omega
theorem stream_out {f : Fr} (h : checkF f = true) (h0 : f.stream = 0) : 2 ∉ shapeF f.kind := fun hm => by
  have := (within_iff _ _ _).1 (((check_iff f).1 h).2.1 2 hm)
  omega
theorem name_out {f : Fr} (h : checkF f = true) (h0 : f.name.size = 0) : 6 ∉ shapeF f.kind := fun hm => by
  have := (within_iff _ _ _).1 (((check_iff f).1 h).2.1 6 hm)
  omega
theorem row_iff {k : Int} (hk : 1 ≤ k ∧ k ≤ 17) : rowF k = true ↔ 0 ∈ shapeF k := by
  rcases kind_cases hk with h | h | h | h | h | h | h | h | h | h | h | h | h | h | h | h | h <;> subst h <;> decide
theorem row_seq {f : Fr} (h : checkF f = true) : rowF f.kind = decide (f.seq > 0) ∧ checkF { f with seq := 0 } = !rowF f.kind := by
  obtain ⟨h1, h2, h3⟩ := (check_iff f).1 h
  have hk := row_iff (shape_kind h1)
  by_cases hm : 0 ∈ shapeF f.kind
  · have := (within_iff _ _ _).1 (h2 0 hm)
    rw [hk.2 hm]
    refine ⟨by simp; omega, ?_⟩
    cases hg : checkF { f with seq := 0 } with
    | false => rfl
    | true =>
      have h4 := ((check_iff _).1 hg).2.1 0 hm
      have := (within_iff _ _ _).1 h4
      simp only at this
      omega
  · have h0 : f.seq = 0 := h3 0 (by omega) hm
    have hr : rowF f.kind = false := by
      cases hr : rowF f.kind with
      | false => rfl
      | true => exact absurd (hk.1 hr) hm
    have hf : { f with seq := 0 } = f := by rw [← h0]
    rw [hr, hf, h, h0]
    simp
theorem layout_ne {f : Fr} (h : checkF f = true) : layoutF f.kind ≠ [] := by
  unfold layoutF
  intro e
  exact ((check_iff f).1 h).1 (List.map_eq_nil_iff.1 e)
end Go.Proofs.YtipgimmgjdgdeaaDoor
/- Plain laws of layer 5, second part: what is taken is written as it was; lengths; fields that aren't looked at; rows. -/
set_option linter.unusedVariables false
set_option linter.unusedSimpArgs false
set_option linter.unnecessarySimpa false
namespace Go.Proofs.YtipgimmgjdgdeaaDoor

theorem word_ne (f : Ieee.Format) (neg : Bool) (r : Nat) (h : 0 < r) : f.word neg r ≠ 0 := by
  unfold Ieee.Format.word
  split <;> omega
theorem float_ne (n : Int) (h : n ≠ 0) : floatOfInt .f64 n ≠ 0 := by
  have hm : n.natAbs ≠ 0 := by omega
  have e : floatOfInt .f64 n = Ieee.double.nearest (decide (n < 0)) n.natAbs 0 := rfl
  rw [e]
  unfold Ieee.Format.nearest
  rw [if_neg hm]
  simp only
  apply word_ne
  have h1 : Ieee.double.leastPlace = -1074 := by decide
  have h2 : Ieee.double.binade = 4503599627370496 := by decide
  have h3 : Ieee.double.infRung = 9218868437227405312 := by decide
  have h4 : Ieee.double.fractionBits = 52 := rfl
  rw [h1, h2, h3, h4]
  have h5 : 1 ≤ (max (0 + (n.natAbs.log2 : Int) - ((52 : Nat) : Int)) (-1074) - -1074).toNat := by omega
  have h6 : 1 * 4503599627370496 ≤ (max (0 + (n.natAbs.log2 : Int) - ((52 : Nat) : Int)) (-1074) - -1074).toNat * 4503599627370496 := Nat.mul_le_mul_right _ h5
  omega

/-- What a frame has to be that its bytes are read back. -/
def Fr.fits (f : Fr) : Prop := f.weight < 18446744073709551616 ∧ ∀ x, x < 9 → (cellF f x).n ≤ 9223372036854775807
theorem put_inj {f g : Fr} (hf : checkF f = true) (hg : checkF g = true) (ff : f.fits) (fg : g.fits) : putF f = putF g ↔ f = g := by
  constructor
  · intro h
    have h1 := get_put hf ff.1 ff.2
    have h2 := get_put hg fg.1 fg.2
    rw [h, h2] at h1
    injection h1 with h1
    exact h1.symm
  · rintro rfl
    rfl
theorem get_other {f g : Fr} {c : Bs} (h : getF c = some g) (hc : c ≠ putF f) : g ≠ f := by
  rintro rfl
  exact hc (put_get h).2.1.symm
theorem get_sum {c : Bs} (h : (sha (c.take (c.length - 4))).take 4 ≠ c.drop (c.length - 4)) : getF c = none := by
  unfold getF
  split
  · rfl
  · rw [if_pos (.inl h)]
end Go.Proofs.YtipgimmgjdgdeaaDoor
