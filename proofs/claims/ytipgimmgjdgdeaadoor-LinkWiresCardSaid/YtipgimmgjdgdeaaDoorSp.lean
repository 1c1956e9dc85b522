/- ScanJoins, ScanFirst: what frames laid one behind the other are where they are cut (plain). -/
import Derived.Test.YtipgimmgjdgdeaaDoorSb
set_option linter.unusedVariables false
set_option linter.unusedSimpArgs false
namespace Go.Proofs.YtipgimmgjdgdeaaDoor

/-- Where the first k of them end. -/
def endE (l : List Fr) (k : Nat) : Nat := ((l.take k).flatMap putF).length
theorem endE_split (l : List Fr) (k : Nat) : l.flatMap putF = (l.take k).flatMap putF ++ (l.drop k).flatMap putF := by
  rw [← List.flatMap_append, List.take_append_drop]
theorem endE_succ (l : List Fr) (k : Nat) (h : k < l.length) : endE l (k + 1) = endE l k + (putF l[k]).length := by
  unfold endE
  rw [List.take_succ_eq_append_getElem h, List.flatMap_append, List.length_append]
  simp
theorem endE_all (l : List Fr) : endE l l.length = (l.flatMap putF).length := by
  unfold endE
  rw [List.take_length]
/-- All that is fed first: the frames that end ahead of the cut; the rest is held. -/
theorem joins_one (l : List Fr) (h : ∀ f ∈ l, checkF f = true ∧ f.fits) (n cut : Nat) (hn : n ≤ l.length) (h1 : endE l n ≤ cut) (h2 : cut ≤ (l.flatMap putF).length) (h3 : n = l.length ∨ cut < endE l (n + 1)) :
    scanB ((l.flatMap putF).take cut) = (l.take n, endE l n, false) := by
  have ht : ∀ f ∈ l.take n, checkF f = true ∧ f.fits := fun f hf => h f (List.mem_of_mem_take hf)
  by_cases e : n = l.length
  · subst e
    have hc : cut = (l.flatMap putF).length := by rw [endE_all] at h1; omega
    rw [hc, List.take_length, List.take_length, endE_all]
    exact scan_puts_all l h
  · have hlt : n < l.length := by omega
    have h4 : cut < endE l (n + 1) := h3.resolve_left e
    rw [endE_succ l n hlt] at h4
    have hs : (l.flatMap putF).take cut = (l.take n).flatMap putF ++ (putF l[n]).take (cut - endE l n) := by
      rw [endE_split l n, List.take_append, List.take_of_length_le (by exact h1)]
      congr 1
      rw [List.drop_eq_getElem_cons hlt, List.flatMap_cons, List.take_append_of_le_length (by unfold endE at *; omega)]
      rfl
    rw [hs]
    exact scan_puts (l.take n) ht l[n] (h _ (List.getElem_mem hlt)).1 _ (by unfold endE at *; omega)
/-- What is held, and the rest of the bytes. -/
theorem joins_two (l : List Fr) (n cut : Nat) (h1 : endE l n ≤ cut) (h2 : cut ≤ (l.flatMap putF).length) :
    ((l.flatMap putF).take cut).drop (endE l n) ++ (l.flatMap putF).drop cut = (l.drop n).flatMap putF := by
  have hd : (l.flatMap putF).drop (endE l n) = (l.drop n).flatMap putF := by
    rw [endE_split l n]
    exact List.drop_left' rfl
  rw [← hd]
  have h5 : (l.flatMap putF).drop (endE l n) = (((l.flatMap putF).take cut) ++ (l.flatMap putF).drop cut).drop (endE l n) := by rw [List.take_append_drop]
  rw [h5, List.drop_append_of_le_length (by rw [List.length_take]; omega)]
theorem endE_mono (l : List Fr) {a b : Nat} (h : a ≤ b) : endE l a ≤ endE l b := by
  unfold endE
  rw [show l.take a = (l.take b).take a by rw [List.take_take, Nat.min_eq_left h]]
  have := endE_split (l.take b) a
  rw [this, List.length_append]
  omega
/-- The loop over the ends: n frames end ahead of the cut, of k that were looked at. -/
structure CutN (l : List Fr) (cut k n : Nat) : Prop where
  le : n ≤ k
  low : endE l n ≤ cut
  high : n = k ∨ cut < endE l (n + 1)
theorem CutN.zero (l : List Fr) (cut : Nat) : CutN l cut 0 0 := ⟨Nat.le_refl _, by simp [endE], .inl rfl⟩
theorem CutN.yes {l : List Fr} {cut k n : Nat} (h : CutN l cut k n) (he : endE l (k + 1) ≤ cut) : n = k ∧ CutN l cut (k + 1) (k + 1) := by
  have hn : n = k := by
    rcases h.high with e | e
    · exact e
    · have h1 := h.le
      by_cases e2 : n = k
      · exact e2
      · have h2 := endE_mono l (show n + 1 ≤ k + 1 by omega)
        omega
  exact ⟨hn, Nat.le_refl _, he, .inl rfl⟩
theorem CutN.no {l : List Fr} {cut k n : Nat} (h : CutN l cut k n) (he : ¬ endE l (k + 1) ≤ cut) : CutN l cut (k + 1) n := by
  refine ⟨Nat.le_succ_of_le h.le, h.low, .inr ?_⟩
  rcases h.high with e | e
  · rw [e]; omega
  · exact e
/-- The last byte turned: nothing more is taken. -/
theorem first_bad {f : Fr} (h : checkF f = true) (hf : f.fits) (y : UInt8) (hy : (putF f)[(putF f).length - 1]? ≠ some y) (c : Bs) : nextF ((putF f).set ((putF f).length - 1) y ++ c) = .bad := by
  have h0 := nx_put h hf []
  rw [List.append_nil] at h0
  obtain ⟨hg, hn, h7, h10, _⟩ := nx_one h0
  rw [List.take_length] at hg
  generalize hp : putF f = p at *
  have hl : (p.set (p.length - 1) y).length = p.length := List.length_set ..
  have hnl : nxLen (p.set (p.length - 1) y ++ c) = p.length := by
    unfold nxLen at hn ⊢
    rw [List.take_append_of_le_length (by rw [hl]; omega), List.take_set, List.set_eq_of_length_le (by rw [List.length_take]; omega)]
    exact hn.symm
  refine nx_bad_get (by rw [List.length_append, hl]; omega) (by rw [hnl]; omega) (by rw [hnl, List.length_append, hl]; omega) ?_
  rw [hnl, List.take_append_of_le_length (by rw [hl]; omega), List.take_of_length_le (by rw [hl]; omega)]
  refine get_sum ?_
  rw [hl, List.take_set, List.set_eq_of_length_le (by rw [List.length_take]; omega)]
  intro e
  have hs : (sha (p.take (p.length - 4))).take 4 = p.drop (p.length - 4) := Classical.byContradiction fun hne => by
    rw [get_sum hne] at hg
    cases hg
  rw [hs] at e
  have e2 := congrArg (fun q => q[3]?) e
  simp only [List.getElem?_drop] at e2
  rw [show p.length - 4 + 3 = p.length - 1 by omega, List.getElem?_set_self (by omega)] at e2
  exact hy e2
/-- One byte turned at the end of the k-th: all ahead of it is taken, it speaks against the rest. -/
theorem first_one (l : List Fr) (h : ∀ f ∈ l, checkF f = true ∧ f.fits) (k : Nat) (hk : k < l.length) (y : UInt8) (hy : (l.flatMap putF)[endE l (k + 1) - 1]? ≠ some y) : scanB ((l.flatMap putF).set (endE l (k + 1) - 1) y) = (l.take k, endE l k, true) := by
  have ht : ∀ f ∈ l.take k, checkF f = true ∧ f.fits := fun f hf => h f (List.mem_of_mem_take hf)
  have h0 := nx_put (h _ (List.getElem_mem hk)).1 (h _ (List.getElem_mem hk)).2 []
  rw [List.append_nil] at h0
  obtain ⟨_, _, h7, _, _⟩ := nx_one h0
  have hb : l.flatMap putF = (l.take k).flatMap putF ++ (putF l[k] ++ (l.drop (k + 1)).flatMap putF) := by
    rw [endE_split l k, List.drop_eq_getElem_cons hk, List.flatMap_cons]
  have hE := endE_succ l k hk
  have hE0 : endE l k = ((l.take k).flatMap putF).length := rfl
  rw [hb] at hy ⊢
  rw [hE, hE0] at hy
  rw [List.getElem?_append_right (by omega), List.getElem?_append_left (by omega), show ((l.take k).flatMap putF).length + (putF l[k]).length - 1 - ((l.take k).flatMap putF).length = (putF l[k]).length - 1 by omega] at hy
  rw [hE, hE0, List.set_append_right _ _ (by omega), List.set_append_left _ _ (by omega), show ((l.take k).flatMap putF).length + (putF l[k]).length - 1 - ((l.take k).flatMap putF).length = (putF l[k]).length - 1 by omega]
  refine Took.bad (took_puts (l.take k) _ ht) ?_
  rw [List.drop_left' rfl]
  exact first_bad (h _ (List.getElem_mem hk)).1 (h _ (List.getElem_mem hk)).2 y hy _
end Go.Proofs.YtipgimmgjdgdeaaDoor
