/- LinkWhole: what is on its way between two links (plain). -/
import Derived.Test.YtipgimmgjdgdeaaDoorKa
import Derived.Test.YtipgimmgjdgdeaaDoorSp
set_option linter.unusedVariables false
set_option linter.unusedSimpArgs false
set_option linter.unnecessarySimpa false
namespace Go.Proofs.YtipgimmgjdgdeaaDoor

/-- What one side has pushed, and the other one has taken. -/
structure Way (sent took : List Fr) (o : Ro) (got : Nat) : Prop where
  ok : ∀ f ∈ sent, checkF f = true ∧ f.fits ∧ rowF f.kind = true
  seq : ∀ (i : Nat) (f : Fr), sent[i]? = some f → f.seq = ((i + 1 : Nat) : Int)
  oh : o.held = sent.drop o.acked
  al : o.acked ≤ got
  gl : got ≤ sent.length
  tk : took = sent.take got
/-- What is on its way. -/
structure Run (sent : List Fr) (got back : Nat) (P : List Fr) : Prop where
  rows : P.filter (fun f => rowF f.kind) = sent.drop got
  ok : ∀ f ∈ P, checkF f = true ∧ f.fits ∧ (rowF f.kind = true ∨ (f.kind = 6 ∧ f.got ≤ (back : Int)))
theorem Way.new : Way [] [] ⟨[], 0⟩ 0 := ⟨fun f h => absurd h (by simp), fun i f h => absurd h (by simp), rfl, Nat.le_refl _, Nat.le_refl _, rfl⟩
section
variable {sent took : List Fr} {o : Ro} {got back : Nat} {P : List Fr}
theorem Way.last (h : Way sent took o got) : o.last = sent.length := by
  have h1 := h.al
  have h2 := h.gl
  unfold Ro.last
  rw [h.oh, List.length_drop]
  omega
theorem Way.ack (h : Way sent took o got) {n : Nat} (hn : n ≤ got) : Way sent took (o.ack n) got := by
  refine ⟨h.ok, h.seq, ?_, ?_, h.gl, h.tk⟩
  · show o.held.drop (n - o.acked) = sent.drop (max o.acked n)
    rw [h.oh, List.drop_drop]
    congr 1
    omega
  · show max o.acked n ≤ got
    have := h.al
    omega
theorem Way.rest (h : Way sent took o got) : o.held.drop (got - o.acked) = sent.drop got := by
  rw [h.oh, List.drop_drop]
  congr 1
  have := h.al
  omega
theorem Way.run (h : Way sent took o got) : Run sent got back (sent.drop got) := by
  refine ⟨?_, fun f hf => ?_⟩
  · rw [List.filter_eq_self]
    intro f hf
    exact (h.ok f (List.mem_of_mem_drop hf)).2.2
  · have h1 := h.ok f (List.mem_of_mem_drop hf)
    exact ⟨h1.1, h1.2.1, .inl h1.2.2⟩
theorem Way.push (h : Way sent took o got) {f : Fr} (hm : o.may f = none) (hf : (o.as f).fits) : Way (sent ++ [o.as f]) took (o.push f) got := by
  obtain ⟨h1, h2, _⟩ := Ro.may_ok hm
  have hl := h.last
  have hg := h.gl
  have ha := h.al
  refine ⟨fun g hg => ?_, fun i g hi => ?_, ?_, ha, by rw [List.length_append]; omega, ?_⟩
  · rcases List.mem_append.1 hg with h3 | h3
    · exact h.ok g h3
    · rw [List.mem_singleton.1 h3]
      exact ⟨h1, hf, h2⟩
  · by_cases h4 : i < sent.length
    · rw [List.getElem?_append_left h4] at hi
      exact h.seq i g hi
    · rw [List.getElem?_append_right (by omega)] at hi
      have h5 : i = sent.length := by
        have := (List.getElem?_eq_some_iff.1 hi).1
        simp at this
        omega
      subst h5
      simp at hi
      subst hi
      show (o.last : Int) + 1 = _
      rw [hl]
      omega
  · show o.held ++ [o.as f] = (sent ++ [o.as f]).drop o.acked
    rw [List.drop_append_of_le_length (by omega), h.oh]
  · rw [List.take_append_of_le_length hg]
    exact h.tk
theorem Run.push (h : Run sent got back P) (hg : got ≤ sent.length) {g : Fr} (h1 : checkF g = true) (h2 : g.fits) (h3 : rowF g.kind = true) : Run (sent ++ [g]) got back (P ++ [g]) := by
  refine ⟨?_, fun f hf => ?_⟩
  · rw [List.filter_append, h.rows, List.drop_append_of_le_length hg]
    simp [h3]
  · rcases List.mem_append.1 hf with h4 | h4
    · exact h.ok f h4
    · rw [List.mem_singleton.1 h4]
      exact ⟨h1, h2, .inl h3⟩
theorem row_ack (n : Nat) : rowF (ackOf n).kind = false := by
  show rowF 6 = false
  decide
theorem Run.acks (h : Run sent got back P) {n : Nat} (hn : n ≤ back) (h1 : checkF (ackOf n) = true) (h2 : (ackOf n).fits) : Run sent got back (P ++ [ackOf n]) := by
  refine ⟨?_, fun f hf => ?_⟩
  · rw [List.filter_append, h.rows]
    simp [row_ack]
  · rcases List.mem_append.1 hf with h4 | h4
    · exact h.ok f h4
    · rw [List.mem_singleton.1 h4]
      exact ⟨h1, h2, .inr ⟨rfl, by show (n : Int) ≤ _; omega⟩⟩
theorem Run.more (h : Run sent got back P) {b : Nat} (hb : back ≤ b) : Run sent got b P :=
  ⟨h.rows, fun f hf => ⟨(h.ok f hf).1, (h.ok f hf).2.1, (h.ok f hf).2.2.imp id fun k => ⟨k.1, by have := k.2; omega⟩⟩⟩
theorem Run.tail_row {f : Fr} (h : Run sent got back (f :: P)) (hw : Way sent took o got) (hr : rowF f.kind = true) : takeR got f = .ok true ∧ Way sent (took ++ [f]) o (got + 1) ∧ Run sent (got + 1) back P := by
  have h1 := h.rows
  rw [List.filter_cons_of_pos (by simpa using hr)] at h1
  have hl : got < sent.length := by
    have h2 := congrArg List.length h1
    rw [List.length_cons, List.length_drop] at h2
    omega
  rw [List.drop_eq_getElem_cons hl] at h1
  injection h1 with h2 h3
  have hs := hw.seq got f (by rw [List.getElem?_eq_getElem hl, h2])
  have hc := (h.ok f (List.mem_cons_self ..)).1
  refine ⟨?_, ⟨hw.ok, hw.seq, hw.oh, by have := hw.al; omega, hl, ?_⟩, h3, fun g hg => h.ok g (List.mem_cons_of_mem _ hg)⟩
  · unfold takeR
    rw [if_pos ⟨hr, hc⟩, if_neg (by rw [hs]; omega), if_neg (by rw [hs]; omega)]
  · rw [hw.tk, List.take_succ_eq_append_getElem hl, h2]
theorem Run.tail_ack {f : Fr} (h : Run sent got back (f :: P)) (hr : ¬ rowF f.kind = true) : f.kind = 6 ∧ checkF f = true ∧ f.got ≤ (back : Int) ∧ Run sent got back P := by
  have h1 := h.rows
  rw [List.filter_cons_of_neg (by simpa using hr)] at h1
  obtain ⟨h2, _, h3⟩ := h.ok f (List.mem_cons_self ..)
  rcases h3 with h3 | h3
  · exact absurd h3 hr
  · exact ⟨h3.1, h2, h3.2, h1, fun g hg => h.ok g (List.mem_cons_of_mem _ hg)⟩
theorem Run.over (h : Run sent got back []) (hg : got ≤ sent.length) : got = sent.length := by
  have h1 := congrArg List.length h.rows
  rw [List.length_drop] at h1
  simp at h1
  omega
end
theorem cut_any (l : List Fr) (cut : Nat) : ∃ n, n ≤ l.length ∧ endE l n ≤ cut ∧ (n = l.length ∨ cut < endE l (n + 1)) := by
  have key : ∀ k, k ≤ l.length → ∃ n, CutN l cut k n := by
    intro k
    induction k with
    | zero => intro _; exact ⟨0, .zero l cut⟩
    | succ k ih =>
      intro hk
      obtain ⟨n, hn⟩ := ih (by omega)
      by_cases he : endE l (k + 1) ≤ cut
      · exact ⟨_, (hn.yes he).2⟩
      · exact ⟨_, hn.no he⟩
  obtain ⟨n, h1, h2, h3⟩ := key l.length (Nat.le_refl _)
  exact ⟨n, h1, h2, h3⟩
/-- Some bytes are carried. -/
theorem carry_cut (P : List Fr) (hP : ∀ f ∈ P, checkF f = true ∧ f.fits) (held wire : Bs) (h : held ++ wire = P.flatMap putF) (k : Nat) (hk : k ≤ wire.length) :
    ∃ j, j ≤ P.length ∧ scanB (held ++ wire.take k) = (P.take j, endE P j, false) ∧ (held ++ wire.take k).drop (endE P j) ++ wire.drop k = (P.drop j).flatMap putF ∧ (k = wire.length → j = P.length) := by
  have hlen : (P.flatMap putF).length = held.length + wire.length := by rw [← h, List.length_append]
  obtain ⟨j, h1, h2, h3⟩ := cut_any P (held.length + k)
  have ht : held ++ wire.take k = (P.flatMap putF).take (held.length + k) := by
    rw [← h, List.take_append, show held.take (held.length + k) = held from List.take_of_length_le (by omega), Nat.add_sub_cancel_left]
  have hd : wire.drop k = (P.flatMap putF).drop (held.length + k) := by
    rw [← h, List.drop_append, show held.drop (held.length + k) = [] from List.drop_eq_nil_of_le (by omega), Nat.add_sub_cancel_left, List.nil_append]
  refine ⟨j, h1, ?_, ?_, fun e => ?_⟩
  · rw [ht]
    exact joins_one P hP j _ h1 h2 (by omega) h3
  · rw [ht, hd]
    exact joins_two P j _ h2 (by omega)
  · rcases h3 with h3 | h3
    · exact h3
    · have h4 := endE_all P
      by_cases h5 : j = P.length
      · exact h5
      · have h6 := endE_mono P (show j + 1 ≤ P.length by omega)
        omega
end Go.Proofs.YtipgimmgjdgdeaaDoor
