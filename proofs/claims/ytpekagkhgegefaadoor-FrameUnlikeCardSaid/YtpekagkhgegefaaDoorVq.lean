/- Plain laws of Decode: field by field. -/
import Derived.Test.YtpekagkhgegefaaDoorFy
set_option linter.unusedVariables false
set_option linter.unusedSimpArgs false
set_option linter.unnecessarySimpa false
namespace Go.Proofs.YtpekagkhgegefaaDoor

theorem decAll_snoc : ∀ (ls b : Bs) (k : Nat) (acc : List Cell) (b' : Bs) (c : Cell) (n : Nat) (h1 : k < ls.length), decAll (ls.take k) b = .ok (acc, b') → decCell ls[k] b' = .ok (c, n) →
    decAll (ls.take (k + 1)) b = .ok (acc ++ [c], b'.drop n)
  | [], _, _, _, _, _, _, h, _, _ => absurd h (by simp)
  | l :: ls, b, 0, acc, b', c, n, _, h, hc => by
    simp only [List.take_zero, decAll, Except.ok.injEq, Prod.mk.injEq] at h
    obtain ⟨rfl, rfl⟩ := h
    simp only [List.getElem_cons_zero] at hc
    simp [decAll, hc, Except.bind, Except.map]
  | l :: ls, b, k + 1, acc, b', c, n, h1, h, hc => by
    simp only [List.take_succ_cons, decAll] at h ⊢
    simp only [List.getElem_cons_succ] at hc
    cases hd : decCell l b with
    | error e => rw [hd] at h; cases h
    | ok q =>
      obtain ⟨c0, n0⟩ := q
      rw [hd] at h
      simp only [Except.bind] at h ⊢
      cases hr : decAll (ls.take k) (b.drop n0) with
      | error e => rw [hr] at h; cases h
      | ok r =>
        obtain ⟨cs, r⟩ := r
        rw [hr] at h
        simp only [Except.map, Except.ok.injEq, Prod.mk.injEq] at h
        obtain ⟨rfl, rfl⟩ := h
        rw [decAll_snoc ls _ k cs r c n (by simpa using h1) hr hc]
        simp [Except.map]
theorem decAll_stop : ∀ (ls b : Bs) (k : Nat) (acc : List Cell) (b' : Bs) (er : Er) (h1 : k < ls.length), decAll (ls.take k) b = .ok (acc, b') → decCell ls[k] b' = .error er → decAll ls b = .error er
  | [], _, _, _, _, _, h, _, _ => absurd h (by simp)
  | l :: ls, b, 0, acc, b', er, _, h, hc => by
    simp only [List.take_zero, decAll, Except.ok.injEq, Prod.mk.injEq] at h
    obtain ⟨rfl, rfl⟩ := h
    simp only [List.getElem_cons_zero] at hc
    simp [decAll, hc, Except.bind]
  | l :: ls, b, k + 1, acc, b', er, h1, h, hc => by
    simp only [List.take_succ_cons, decAll] at h ⊢
    simp only [List.getElem_cons_succ] at hc
    cases hd : decCell l b with
    | error e => rw [hd] at h; cases h
    | ok q =>
      obtain ⟨c0, n0⟩ := q
      rw [hd] at h
      simp only [Except.bind] at h ⊢
      cases hr : decAll (ls.take k) (b.drop n0) with
      | error e => rw [hr] at h; cases h
      | ok r =>
        obtain ⟨cs, r⟩ := r
        rw [hr] at h
        simp only [Except.map, Except.ok.injEq, Prod.mk.injEq] at h
        obtain ⟨rfl, rfl⟩ := h
        rw [decAll_stop ls _ k cs r er (by simpa using h1) hr hc]
        rfl
theorem decCell_le {l : UInt8} {b : Bs} {c : Cell} {n : Nat} (h : decCell l b = .ok (c, n)) : n ≤ b.length := by
  unfold decCell at h
  split at h
  · cases h
  · split at h
    · cases h; omega
    · split at h
      · split at h
        · cases h
        · cases h; omega
      · split at h
        · cases h
        · cases h; omega
theorem decAll_len : ∀ (ls b : Bs) (acc : List Cell) (b' : Bs), decAll ls b = .ok (acc, b') → acc.length = ls.length ∧ b'.length ≤ b.length
  | [], b, acc, b', h => by
    simp only [decAll, Except.ok.injEq, Prod.mk.injEq] at h
    obtain ⟨rfl, rfl⟩ := h
    simp
  | l :: ls, b, acc, b', h => by
    simp only [decAll] at h
    cases hd : decCell l b with
    | error e => rw [hd] at h; cases h
    | ok q =>
      obtain ⟨c0, n0⟩ := q
      rw [hd] at h
      simp only [Except.bind] at h
      cases hr : decAll ls (b.drop n0) with
      | error e => rw [hr] at h; cases h
      | ok r =>
        obtain ⟨cs, r⟩ := r
        rw [hr] at h
        simp only [Except.map, Except.ok.injEq, Prod.mk.injEq] at h
        obtain ⟨rfl, rfl⟩ := h
        have := decAll_len ls _ cs r hr
        simp only [List.length_cons, List.length_drop] at this ⊢
        omega

end Go.Proofs.YtpekagkhgegefaaDoor
