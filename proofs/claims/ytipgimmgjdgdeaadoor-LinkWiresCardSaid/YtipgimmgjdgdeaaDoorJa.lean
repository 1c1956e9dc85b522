/- Layer 11 (replay) as plain Lean: a row out, a row in. No program. -/
import Derived.Test.YtipgimmgjdgdeaaDoorVf
set_option linter.unusedVariables false
set_option linter.unusedSimpArgs false
set_option linter.unnecessarySimpa false
namespace Go.Proofs.YtipgimmgjdgdeaaDoor

def sizeF (f : Fr) : Nat := (putF f).length
def sizes (l : List Fr) : Nat := (l.map sizeF).sum
/-- A row out: what is held, up to which number all was acked. -/
structure Ro where
  held : List Fr
  acked : Nat
def Ro.last (o : Ro) : Nat := o.acked + o.held.length
def Ro.bytes (o : Ro) : Nat := sizes o.held
/-- A frame as the row's next one. -/
def Ro.as (o : Ro) (f : Fr) : Fr := { f with seq := (o.last : Int) + 1 }
/-- What speaks against its being put into the row. -/
def Ro.may (o : Ro) (f : Fr) : Option Er :=
  if checkF (o.as f) = true ∧ rowF f.kind = true then (if o.bytes + sizeF (o.as f) ≤ 8192 then none else some .full) else some .frame
def Ro.push (o : Ro) (f : Fr) : Ro := ⟨o.held ++ [o.as f], o.acked⟩
def Ro.ack (o : Ro) (n : Nat) : Ro := ⟨o.held.drop (n - o.acked), max o.acked n⟩
structure Ro.fine (o : Ro) : Prop where
  ok : ∀ f ∈ o.held, checkF f = true ∧ rowF f.kind = true
  seq : ∀ (i : Nat) (f : Fr), o.held[i]? = some f → f.seq = ((o.acked + 1 + i : Nat) : Int)
  room : o.bytes ≤ 8192
  last : o.last ≤ 1099511627776
theorem Ro.fine.new : (⟨[], 0⟩ : Ro).fine := ⟨fun f h => absurd h (by simp), fun i f h => absurd h (by simp), by simp [Ro.bytes, sizes], by simp [Ro.last]⟩
theorem sizes_append (a b : List Fr) : sizes (a ++ b) = sizes a + sizes b := by simp [sizes]
theorem sizeF_in {f : Fr} (h : checkF f = true) : 7 ≤ sizeF f ∧ sizeF f ≤ 607 := by
  have h1 := body_len h
  have h2 := put_len f
  unfold sizeF
  omega
theorem sizes_ge : ∀ (l : List Fr), (∀ f ∈ l, checkF f = true) → 7 * l.length ≤ sizes l
  | [], _ => by simp [sizes]
  | f :: l, h => by
    have h1 := (sizeF_in (h f (by simp))).1
    have h2 := sizes_ge l (fun g hg => h g (by simp [hg]))
    simp [sizes] at h2 ⊢
    omega
theorem Ro.fine.few {o : Ro} (h : o.fine) : o.held.length ≤ 1170 := by
  have h1 := sizes_ge o.held (fun f hf => (h.ok f hf).1)
  have h2 := h.room
  unfold Ro.bytes at h2
  omega
theorem seq_in {f : Fr} (h : checkF f = true) (hr : rowF f.kind = true) : 1 ≤ f.seq ∧ f.seq ≤ 1099511627776 := by
  obtain ⟨h1, h2, _⟩ := (check_iff f).1 h
  exact (within_iff _ _ _).1 (h2 0 ((row_iff (shape_kind h1)).1 hr))
theorem as_kind (o : Ro) (f : Fr) : (o.as f).kind = f.kind := rfl
theorem Ro.may_ok {o : Ro} {f : Fr} (h : o.may f = none) : checkF (o.as f) = true ∧ rowF f.kind = true ∧ o.bytes + sizeF (o.as f) ≤ 8192 := by
  unfold Ro.may at h
  split at h
  · rename_i h1
    split at h
    · rename_i h2
      exact ⟨h1.1, h1.2, h2⟩
    · cases h
  · cases h
theorem Ro.may_no {o : Ro} {f : Fr} {e : Er} (h : o.may f = some e) : (e = .frame ∧ (checkF (o.as f) = false ∨ rowF f.kind = false)) ∨ (e = .full ∧ checkF (o.as f) = true ∧ rowF f.kind = true ∧ 8192 < o.bytes + sizeF (o.as f)) := by
  unfold Ro.may at h
  split at h
  · rename_i h1
    split at h
    · cases h
    · injection h with h
      exact .inr ⟨h.symm, h1.1, h1.2, by omega⟩
  · rename_i h1
    injection h with h
    refine .inl ⟨h.symm, ?_⟩
    cases hc : checkF (o.as f) with
    | false => exact .inl rfl
    | true =>
      cases hr : rowF f.kind with
      | false => exact .inr rfl
      | true => exact absurd ⟨hc, hr⟩ h1
theorem Ro.push_last (o : Ro) (f : Fr) : (o.push f).last = o.last + 1 := by simp [Ro.push, Ro.last]; omega
theorem Ro.push_bytes (o : Ro) (f : Fr) : (o.push f).bytes = o.bytes + sizeF (o.as f) := by simp [Ro.push, Ro.bytes, sizes]
theorem Ro.fine.push {o : Ro} {f : Fr} (h : o.fine) (hm : o.may f = none) : (o.push f).fine := by
  obtain ⟨h1, h2, h3⟩ := Ro.may_ok hm
  refine ⟨fun g hg => ?_, fun i g hi => ?_, by rw [Ro.push_bytes]; exact h3, ?_⟩
  · rcases List.mem_append.1 hg with h4 | h4
    · exact h.ok g h4
    · rw [List.mem_singleton.1 h4]
      exact ⟨h1, h2⟩
  · have hi2 : (o.held ++ [o.as f])[i]? = some g := hi
    by_cases h4 : i < o.held.length
    · rw [List.getElem?_append_left h4] at hi2
      exact h.seq i g hi2
    · rw [List.getElem?_append_right (by omega)] at hi2
      have h5 : i = o.held.length := by
        have := (List.getElem?_eq_some_iff.1 hi2).1
        simp at this
        omega
      subst h5
      simp at hi2
      subst hi2
      show (o.last : Int) + 1 = ((o.acked + 1 + o.held.length : Nat) : Int)
      unfold Ro.last
      omega
  · rw [Ro.push_last]
    have h4 := (seq_in h1 (by rw [as_kind]; exact h2)).2
    have h5 : (o.as f).seq = (o.last : Int) + 1 := rfl
    rw [h5] at h4
    omega
theorem Ro.ack_last {o : Ro} {n : Nat} (hn : n ≤ o.last) : (o.ack n).last = o.last := by
  unfold Ro.last at hn
  simp [Ro.ack, Ro.last]
  omega
theorem sizes_drop (l : List Fr) (k : Nat) : sizes (l.drop k) ≤ sizes l := by
  have h := sizes_append (l.take k) (l.drop k)
  rw [List.take_append_drop] at h
  omega
theorem Ro.fine.ack {o : Ro} {n : Nat} (h : o.fine) (hn : n ≤ o.last) : (o.ack n).fine := by
  refine ⟨fun f hf => h.ok f (List.mem_of_mem_drop hf), fun i f hi => ?_, Nat.le_trans (sizes_drop _ _) h.room, by rw [Ro.ack_last hn]; exact h.last⟩
  have hi2 : (o.held.drop (n - o.acked))[i]? = some f := hi
  have hi3 : i < o.held.length - (n - o.acked) := by
    have := (List.getElem?_eq_some_iff.1 hi2).1
    rwa [List.length_drop] at this
  rw [List.getElem?_drop] at hi2
  rw [h.seq _ f hi2]
  show _ = ((max o.acked n + 1 + i : Nat) : Int)
  omega
/-- One frame less. -/
theorem Ro.ack_one {o : Ro} {f : Fr} {l : List Fr} (h : o.held = f :: l) : o.bytes = sizeF f + sizes l := by
  unfold Ro.bytes
  rw [h]
  simp [sizes]
/-- A row in takes a frame: an error, or whether it is a new one. -/
def takeR (got : Nat) (f : Fr) : Except Er Bool :=
  if rowF f.kind = true ∧ checkF f = true then (if f.seq > ((got + 1 : Nat) : Int) then .error .gap else if f.seq ≤ (got : Int) then .ok false else .ok true) else .error .frame
def gotR (got : Nat) (f : Fr) : Nat := match takeR got f with
  | .ok true => got + 1
  | _ => got
theorem takeR_new {got : Nat} {f : Fr} (h : takeR got f = .ok true) : rowF f.kind = true ∧ checkF f = true ∧ f.seq = ((got + 1 : Nat) : Int) := by
  unfold takeR at h
  split at h
  · rename_i h1
    split at h
    · cases h
    · split at h
      · cases h
      · exact ⟨h1.1, h1.2, by omega⟩
  · cases h
/-- An end of a stream, of a number. -/
def endF (s t : Int) : Fr := { Fr.of 11 with seq := s, stream := t }
theorem end_check (s t : Int) : checkF (endF s t) = (withinF s 1 1099511627776 && withinF t 1 2147483647) := by
  have h1 : shapeF (endF s t).kind = [0, 2] := rfl
  unfold checkF
  rw [h1]
  have h2 : onlyF (endF s t) [0, 2] = endF s t := rfl
  rw [h2]
  simp [goodF, endF]
end Go.Proofs.YtipgimmgjdgdeaaDoor
