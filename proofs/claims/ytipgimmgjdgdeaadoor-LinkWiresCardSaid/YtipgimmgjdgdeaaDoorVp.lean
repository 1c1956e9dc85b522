/- Plain laws of layer 1: what is made is taken apart again; what is taken is made again; what is cut short (for seats without layer 1's laws). -/
import Derived.Test.YtipgimmgjdgdeaaDoorFy
set_option linter.unusedVariables false
set_option linter.unusedSimpArgs false
set_option linter.unnecessarySimpa false
namespace Go.Proofs.YtipgimmgjdgdeaaDoor

theorem decAll_snoc : ∀ (ls b : Bs) (k : Nat) (acc : List Cell) (b' : Bs) (c : Cell) (n : Nat) (h1 : k < ls.length), decAll (ls.take k) b = .ok (acc, b') → decCell ls[k] b' = .ok (c, n) →
    decAll (ls.take (k + 1)) b = .ok (acc ++ [c], b'.drop n)
  | [], _, _, _, _, _, _, h, _, _ => absurd h (by simp)
  | l :: ls, b, 0, acc, b', c, n, _, h, hc => by
    simp only [List.take_zero, decAll, Except.ok.injEq, Prod.mk.injEq] at h
    obtain ⟨rfl, rfl⟩ := h
    simp only [List.getElem_cons_zero] at hc
    simp [decAll, hc, Except.bind, Except.map]
  | l :: ls, b, k + 1, acc, b', c, n, h1, h, hc => by
    simp only [List.take_succ_cons, decAll] at h ⊢
    simp only [List.getElem_cons_succ] at hc
    cases hd : decCell l b with
    | error e => rw [hd] at h; cases h
    | ok q =>
      obtain ⟨c0, n0⟩ := q
      rw [hd] at h
      simp only [Except.bind] at h ⊢
      cases hr : decAll (ls.take k) (b.drop n0) with
      | error e => rw [hr] at h; cases h
      | ok r =>
        obtain ⟨cs, r⟩ := r
        rw [hr] at h
        simp only [Except.map, Except.ok.injEq, Prod.mk.injEq] at h
        obtain ⟨rfl, rfl⟩ := h
        rw [decAll_snoc ls _ k cs r c n (by simpa using h1) hr hc]
        simp [Except.map]
theorem decAll_stop : ∀ (ls b : Bs) (k : Nat) (acc : List Cell) (b' : Bs) (er : Er) (h1 : k < ls.length), decAll (ls.take k) b = .ok (acc, b') → decCell ls[k] b' = .error er → decAll ls b = .error er
  | [], _, _, _, _, _, h, _, _ => absurd h (by simp)
  | l :: ls, b, 0, acc, b', er, _, h, hc => by
    simp only [List.take_zero, decAll, Except.ok.injEq, Prod.mk.injEq] at h
    obtain ⟨rfl, rfl⟩ := h
    simp only [List.getElem_cons_zero] at hc
    simp [decAll, hc, Except.bind]
  | l :: ls, b, k + 1, acc, b', er, h1, h, hc => by
    simp only [List.take_succ_cons, decAll] at h ⊢
    simp only [List.getElem_cons_succ] at hc
    cases hd : decCell l b with
    | error e => rw [hd] at h; cases h
    | ok q =>
      obtain ⟨c0, n0⟩ := q
      rw [hd] at h
      simp only [Except.bind] at h ⊢
      cases hr : decAll (ls.take k) (b.drop n0) with
      | error e => rw [hr] at h; cases h
      | ok r =>
        obtain ⟨cs, r⟩ := r
        rw [hr] at h
        simp only [Except.map, Except.ok.injEq, Prod.mk.injEq] at h
        obtain ⟨rfl, rfl⟩ := h
        rw [decAll_stop ls _ k cs r er (by simpa using h1) hr hc]
        rfl
theorem decCell_le {l : UInt8} {b : Bs} {c : Cell} {n : Nat} (h : decCell l b = .ok (c, n)) : n ≤ b.length := by
  unfold decCell at h
  split at h
  · cases h
  · split at h
    · cases h; omega
    · split at h
      · split at h
        · cases h
        · cases h; omega
      · split at h
        · cases h
        · cases h; omega
theorem decAll_len : ∀ (ls b : Bs) (acc : List Cell) (b' : Bs), decAll ls b = .ok (acc, b') → acc.length = ls.length ∧ b'.length ≤ b.length
  | [], b, acc, b', h => by
    simp only [decAll, Except.ok.injEq, Prod.mk.injEq] at h
    obtain ⟨rfl, rfl⟩ := h
    simp
  | l :: ls, b, acc, b', h => by
    simp only [decAll] at h
    cases hd : decCell l b with
    | error e => rw [hd] at h; cases h
    | ok q =>
      obtain ⟨c0, n0⟩ := q
      rw [hd] at h
      simp only [Except.bind] at h
      cases hr : decAll ls (b.drop n0) with
      | error e => rw [hr] at h; cases h
      | ok r =>
        obtain ⟨cs, r⟩ := r
        rw [hr] at h
        simp only [Except.map, Except.ok.injEq, Prod.mk.injEq] at h
        obtain ⟨rfl, rfl⟩ := h
        have := decAll_len ls _ cs r hr
        simp only [List.length_cons, List.length_drop] at this ⊢
        omega

end Go.Proofs.YtipgimmgjdgdeaaDoor
/- Plain laws of Decode: field by field. -/
set_option linter.unusedVariables false
set_option linter.unusedSimpArgs false
set_option linter.unnecessarySimpa false
namespace Go.Proofs.YtipgimmgjdgdeaaDoor

/-- A field as it comes back. -/
def norm (l : UInt8) (c : Cell) : Cell := if l = 102 then ⟨0, c.f, ⟨#[]⟩⟩ else if isText l = true then ⟨0, 0, c.s⟩ else ⟨c.n, 0, ⟨#[]⟩⟩
def norms (ls : Bs) (cs : List Cell) : List Cell := List.zipWith norm ls cs
theorem pow_bits (w : Nat) (h : 1 ≤ w) : 0 < 256 ^ w := Nat.pow_pos (by omega)
theorem dec_enc_cell {l : UInt8} {c : Cell} {b : Bs} (more : Bs) (h : encCell l c = .ok b) (hf : c.f < 18446744073709551616) (hn : c.n ≤ 9223372036854775807) : decCell l (b ++ more) = .ok (norm l c, b.length) := by
  have hw := width_le l
  have hp := pow_bits (width l) hw.1
  unfold encCell at h
  unfold decCell norm
  split at h
  · rename_i hl
    subst hl
    injection h with h
    subst h
    have e8 : width 102 = 8 := by decide
    rw [e8, if_neg (by simp), if_pos rfl]
    have e1 : (be c.f 8 ++ more).take 8 = be c.f 8 := by rw [List.take_append_of_le_length (by simp), List.take_of_length_le (by simp)]
    rw [e1, num_be, if_pos rfl, Nat.mod_eq_of_lt (by omega)]
    simp
  · rename_i hl
    rw [if_neg hl]
    split at h
    · rename_i ht
      rw [if_pos ht]
      split at h
      · cases h
      · rename_i hsz
        injection h with h
        subst h
        have hl2 : c.s.data.toList.length = c.s.size := Array.length_toList
        have e1 : (be c.s.size (width l) ++ c.s.data.toList ++ more).take (width l) = be c.s.size (width l) := by
          rw [List.append_assoc, List.take_append_of_le_length (by simp), List.take_of_length_le (by simp)]
        have e2 : (be c.s.size (width l) ++ c.s.data.toList ++ more).drop (width l) = c.s.data.toList ++ more := by
          rw [List.append_assoc, List.drop_append_of_le_length (by simp), List.drop_of_length_le (by simp)]; rfl
        have e3 : c.s.size % 256 ^ width l = c.s.size := Nat.mod_eq_of_lt (by omega)
        rw [e1, e2, num_be, e3, if_neg (by simp), if_neg hl, if_pos ht, if_neg (by simp only [List.length_append, be_length]; omega)]
        have e4 : (c.s.data.toList ++ more).take c.s.size = c.s.data.toList := by rw [List.take_append_of_le_length (by omega), List.take_of_length_le (by omega)]
        rw [e4]
        simp
    · rename_i ht
      rw [if_neg ht]
      split at h
      · cases h
      · rename_i hsz
        injection h with h
        subst h
        have e1 : (be c.n.toNat (width l) ++ more).take (width l) = be c.n.toNat (width l) := by rw [List.take_append_of_le_length (by simp), List.take_of_length_le (by simp)]
        have e3 : c.n.toNat % 256 ^ width l = c.n.toNat := Nat.mod_eq_of_lt (by omega)
        rw [e1, num_be, e3, if_neg (by simp), if_neg hl, if_neg ht, if_neg (by omega)]
        have e5 : ((c.n.toNat : Nat) : Int) = c.n := by omega
        simp only [be_length, e5]
theorem dec_enc_all : ∀ (ls : Bs) (cs : List Cell) (bs more : Bs), cs.length = ls.length → encAll ls cs = .ok bs → (∀ c ∈ cs, c.f < 18446744073709551616 ∧ c.n ≤ 9223372036854775807) → decAll ls (bs ++ more) = .ok (norms ls cs, more)
  | [], [], bs, more, _, h, _ => by
    simp only [encAll] at h
    injection h with h
    subst h
    rfl
  | l :: ls, c :: cs, bs, more, hl, h, hc => by
    simp only [encAll] at h
    cases h1 : encCell l c with
    | error e => rw [h1] at h; cases h
    | ok x =>
      rw [h1] at h
      cases h2 : encAll ls cs with
      | error e => rw [h2] at h; cases h
      | ok y =>
        rw [h2] at h
        simp only [Except.bind, Except.map] at h
        injection h with h
        subst h
        have hcc := hc c (by simp)
        unfold decAll
        rw [List.append_assoc, dec_enc_cell (y ++ more) h1 hcc.1 hcc.2]
        simp only [Except.bind]
        rw [List.drop_append_of_le_length (by simp), List.drop_of_length_le (by simp), List.nil_append, dec_enc_all ls cs y more (by simpa using hl) h2 (fun c h => hc c (by simp [h]))]
        rfl
  | [], _ :: _, _, _, h, _, _ => absurd h (by simp)
  | _ :: _, [], _, _, h, _, _ => absurd h (by simp)
theorem norms_len (ls : Bs) (cs : List Cell) (h : cs.length = ls.length) : (norms ls cs).length = cs.length := by
  unfold norms
  rw [List.length_zipWith]
  omega
theorem norms_get (ls : Bs) (cs : List Cell) (k : Nat) (h1 : k < ls.length) (h2 : k < cs.length) (h3 : k < (norms ls cs).length) : (norms ls cs)[k] = norm ls[k] cs[k] := by
  simp [norms]
theorem enc_dec_cell {l : UInt8} {b : Bs} {c : Cell} {n : Nat} (h : decCell l b = .ok (c, n)) : encCell l c = .ok (b.take n) ∧ n ≤ b.length ∧ c.n ≤ 9223372036854775807 ∧ c.s.size ≤ n := by
  have hw := width_le l
  have hp := pow_bits (width l) hw.1
  unfold decCell at h
  unfold encCell
  split at h
  · cases h
  · rename_i h0
    have ht : (b.take (width l)).length = width l := by rw [List.length_take]; omega
    have hlt := num_lt (b.take (width l))
    have hbe := be_num (b.take (width l))
    rw [ht] at hlt hbe
    split at h
    · rename_i hl
      subst hl
      injection h with h
      injection h with h1 h2
      subst h1 h2
      have e8 : width 102 = 8 := by decide
      rw [if_pos rfl]
      rw [e8] at hbe h0 hlt ⊢
      refine ⟨by rw [hbe], by omega, by simp, by simp [ByteArray.size]⟩
    · rename_i hl
      rw [if_neg hl]
      split at h
      · rename_i htx
        rw [if_pos htx]
        split at h
        · cases h
        · rename_i hsz
          injection h with h
          injection h with h1 h2
          subst h1 h2
          have hll : ((b.drop (width l)).take (num (b.take (width l)))).length = num (b.take (width l)) := by rw [List.length_take, List.length_drop]; omega
          have hss : (ByteArray.mk ((b.drop (width l)).take (num (b.take (width l)))).toArray).size = num (b.take (width l)) := by
            simp only [ByteArray.size, List.size_toArray]; exact hll
          refine ⟨?_, by omega, by simp, ?_⟩
          · simp only [hss]
            rw [if_neg (by omega), hbe, List.take_add]
          · simp only [hss]; omega
      · rename_i htx
        rw [if_neg htx]
        split at h
        · cases h
        · rename_i hsz
          injection h with h
          injection h with h1 h2
          subst h1 h2
          refine ⟨?_, by omega, by simp only; omega, by simp [ByteArray.size]⟩
          simp only
          rw [if_neg (by omega), show ((num (b.take (width l)) : Nat) : Int).toNat = num (b.take (width l)) from by omega, hbe]
theorem enc_dec_all : ∀ (ls b : Bs) (cs : List Cell) (r : Bs), decAll ls b = .ok (cs, r) → cs.length = ls.length ∧ (∀ c ∈ cs, c.n ≤ 9223372036854775807) ∧ ∃ bs, encAll ls cs = .ok bs ∧ b = bs ++ r ∧ cost cs ≤ 8 * ls.length + bs.length
  | [], b, cs, r, h => by
    simp only [decAll] at h
    injection h with h
    injection h with h1 h2
    subst h1 h2
    exact ⟨rfl, by simp, [], rfl, rfl, by simp [cost]⟩
  | l :: ls, b, cs, r, h => by
    simp only [decAll] at h
    cases h1 : decCell l b with
    | error e => rw [h1] at h; cases h
    | ok q =>
      obtain ⟨c, n⟩ := q
      rw [h1] at h
      simp only [Except.bind] at h
      cases h2 : decAll ls (b.drop n) with
      | error e => rw [h2] at h; cases h
      | ok q2 =>
        obtain ⟨cs2, r2⟩ := q2
        rw [h2] at h
        simp only [Except.map] at h
        injection h with h
        injection h with h3 h4
        subst h3 h4
        obtain ⟨g1, g2, bs, g3, g4, g5⟩ := enc_dec_all ls (b.drop n) cs2 r2 h2
        obtain ⟨k1, k2, k3, k4⟩ := enc_dec_cell h1
        refine ⟨by simp [g1], ?_, b.take n ++ bs, ?_, ?_, ?_⟩
        · intro c' hc'
          rcases List.mem_cons.1 hc' with rfl | hc'
          · exact k3
          · exact g2 c' hc'
        · simp only [encAll, k1, g3]
          rfl
        · rw [List.append_assoc, ← g4, List.take_append_drop]
        · have e : cost (c :: cs2) = 8 + c.s.size + cost cs2 := by simp [cost]
          rw [e, List.length_append, List.length_take, List.length_cons]
          omega
theorem enc_dec {ls b : Bs} {cs : List Cell} (h : decode ls b = .ok cs) : encode ls cs = .ok b ∧ cs.length = ls.length ∧ (∀ c ∈ cs, c.n ≤ 9223372036854775807) ∧ cost cs ≤ 8 * ls.length + b.length := by
  unfold decode at h
  split at h
  · cases h
  · rename_i hk
    cases h1 : decAll ls b with
    | error e => rw [h1] at h; cases h
    | ok q =>
      obtain ⟨cs2, r⟩ := q
      rw [h1] at h
      simp only [Except.bind] at h
      split at h
      · rename_i hr
        injection h with h
        subst h hr
        obtain ⟨g1, g2, bs, g3, g4, g5⟩ := enc_dec_all ls b cs2 [] h1
        rw [List.append_nil] at g4
        subst g4
        refine ⟨?_, g1, g2, g5⟩
        unfold encode
        rw [if_neg (by simp [g1]; simpa using hk)]
        exact g3
      · cases h
theorem encode_ok {ls bs : Bs} {cs : List Cell} (h : encode ls cs = .ok bs) : known ls = true ∧ cs.length = ls.length ∧ encAll ls cs = .ok bs := by
  unfold encode at h
  split at h
  · cases h
  · rename_i hk
    refine ⟨?_, ?_, h⟩
    · cases hkn : known ls with
      | true => rfl
      | false => exact absurd (.inl hkn) hk
    · exact Classical.byContradiction fun hx => hk (.inr hx)
theorem dec_enc {ls bs : Bs} {cs : List Cell} (h : encode ls cs = .ok bs) (hc : ∀ c ∈ cs, c.f < 18446744073709551616 ∧ c.n ≤ 9223372036854775807) : decode ls bs = .ok (norms ls cs) := by
  obtain ⟨h1, h2, h3⟩ := encode_ok h
  unfold decode
  have := dec_enc_all ls cs bs [] h2 h3 hc
  rw [List.append_nil] at this
  rw [if_neg (by simp [h1]), this]
  rfl
theorem dec_tail {ls bs : Bs} {cs : List Cell} (x : UInt8) (h : encode ls cs = .ok bs) (hc : ∀ c ∈ cs, c.f < 18446744073709551616 ∧ c.n ≤ 9223372036854775807) : decode ls (bs ++ [x]) = .error .tail := by
  obtain ⟨h1, h2, h3⟩ := encode_ok h
  unfold decode
  rw [if_neg (by simp [h1]), dec_enc_all ls cs bs [x] h2 h3 hc]
  rfl
theorem short_cell {l : UInt8} {c : Cell} {b : Bs} (k : Nat) (h : encCell l c = .ok b) (hk : k < b.length) : decCell l (b.take k) = .error .short := by
  have hw := width_le l
  unfold decCell
  by_cases h0 : (b.take k).length < width l
  · rw [if_pos h0]
  · rw [if_neg h0]
    rw [List.length_take] at h0
    unfold encCell at h
    split at h
    · rename_i hl
      subst hl
      injection h with h
      subst h
      have e8 : width 102 = 8 := by decide
      rw [e8] at h0
      simp at hk h0
      omega
    · rename_i hl
      rw [if_neg hl]
      split at h
      · rename_i ht
        rw [if_pos ht]
        split at h
        · cases h
        · rename_i hsz
          injection h with h
          subst h
          have hl2 : c.s.data.toList.length = c.s.size := Array.length_toList
          rw [List.length_append, be_length] at hk h0
          have e1 : ((be c.s.size (width l) ++ c.s.data.toList).take k).take (width l) = be c.s.size (width l) := by
            rw [List.take_take, Nat.min_eq_left (by omega), List.take_append_of_le_length (by simp), List.take_of_length_le (by simp)]
          have e3 : c.s.size % 256 ^ width l = c.s.size := Nat.mod_eq_of_lt (by omega)
          rw [e1, num_be, e3, if_pos (by rw [List.length_take, List.length_append, be_length]; omega)]
      · rename_i ht
        split at h
        · cases h
        · injection h with h
          subst h
          simp at hk h0
          omega
theorem short_all : ∀ (ls : Bs) (cs : List Cell) (bs : Bs) (k : Nat), cs.length = ls.length → encAll ls cs = .ok bs → (∀ c ∈ cs, c.f < 18446744073709551616 ∧ c.n ≤ 9223372036854775807) → k < bs.length → known ls = true →
    decAll ls (bs.take k) = .error .short ∧ (someAt ls (bs.take k)).1 < ls.length ∧ (someAt ls (bs.take k)).2 = false
  | [], [], bs, k, _, h, _, hk, _ => by
    simp only [encAll] at h
    injection h with h
    subst h
    simp at hk
  | l :: ls, c :: cs, bs, k, hl, h, hc, hk, hkn => by
    have hk1 : knownL l = true := by simp only [known, List.all_cons, Bool.and_eq_true] at hkn; exact hkn.1
    have hk2 : known ls = true := by simp only [known, List.all_cons, Bool.and_eq_true] at hkn; exact hkn.2
    simp only [encAll] at h
    cases h1 : encCell l c with
    | error e => rw [h1] at h; cases h
    | ok x =>
      rw [h1] at h
      cases h2 : encAll ls cs with
      | error e => rw [h2] at h; cases h
      | ok y =>
        rw [h2] at h
        simp only [Except.bind, Except.map] at h
        injection h with h
        subst h
        rw [List.length_append] at hk
        unfold decAll someAt
        rw [if_neg (by simp [hk1])]
        by_cases hx : k < x.length
        · rw [List.take_append_of_le_length (by omega), short_cell k h1 hx]
          exact ⟨rfl, by simp, rfl⟩
        · have hcc := hc c (by simp)
          have e1 : (x ++ y).take k = x ++ y.take (k - x.length) := by rw [List.take_append, List.take_of_length_le (by omega)]
          have e2 : (x ++ y.take (k - x.length)).drop x.length = y.take (k - x.length) := by
            rw [List.drop_append_of_le_length (by simp), List.drop_of_length_le (by simp)]; rfl
          obtain ⟨g1, g2, g3⟩ := short_all ls cs y (k - x.length) (by simpa using hl) h2 (fun c h => hc c (by simp [h])) (by omega) hk2
          rw [e1, dec_enc_cell _ h1 hcc.1 hcc.2]
          simp only [Except.bind, e2, g1, g3, List.length_cons]
          exact ⟨rfl, by omega, trivial⟩
  | [], _ :: _, _, _, h, _, _, _, _ => absurd h (by simp)
  | _ :: _, [], _, _, h, _, _, _, _ => absurd h (by simp)
theorem dec_short {ls bs : Bs} {cs : List Cell} (k : Nat) (h : encode ls cs = .ok bs) (hc : ∀ c ∈ cs, c.f < 18446744073709551616 ∧ c.n ≤ 9223372036854775807) (hk : k < bs.length) :
    decode ls (bs.take k) = .error .short ∧ (someAt ls (bs.take k)).1 < ls.length ∧ (someAt ls (bs.take k)).2 = false := by
  obtain ⟨h1, h2, h3⟩ := encode_ok h
  obtain ⟨g1, g2, g3⟩ := short_all ls cs bs k h2 h3 hc hk h1
  unfold decode
  rw [if_neg (by simp [h1]), g1]
  exact ⟨rfl, g2, g3⟩
end Go.Proofs.YtipgimmgjdgdeaaDoor
