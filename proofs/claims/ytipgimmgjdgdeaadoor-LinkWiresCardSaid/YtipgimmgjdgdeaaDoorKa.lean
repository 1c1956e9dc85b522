/- Layer 12 (link) as plain Lean: one side of a tunnel. No program. -/
import Derived.Test.YtipgimmgjdgdeaaDoorJa
import Derived.Test.YtipgimmgjdgdeaaDoorVg
set_option linter.unusedVariables false
set_option linter.unusedSimpArgs false
set_option linter.unnecessarySimpa false
namespace Go.Proofs.YtipgimmgjdgdeaaDoor

structure Lk where
  o : Ro
  got : Nat
  wire : Bs
  up : Bool
  told : Nat
  since : Int
def Lk.new : Lk := ⟨⟨[], 0⟩, 0, [], false, 0, 0⟩
/-- What is put behind the wire for a frame. -/
def wireF (f : Fr) : Bs := if checkF f = true then putF f else []
def Lk.push (m : Lk) (f : Fr) : Lk := { m with o := m.o.push f, wire := if m.up = true then m.wire ++ wireF (m.o.as f) else m.wire }
def ackOf (n : Nat) : Fr := { Fr.of 6 with got := n }
def Lk.tell (m : Lk) : Lk := if m.up = true ∧ m.told < m.got then { m with told := m.got, wire := m.wire ++ wireF (ackOf m.got) } else m
/-- Up: what isn't acked lies on the wire again. -/
def Lk.raise (m : Lk) (n : Nat) : Lk := { m with o := m.o.ack n, wire := (m.o.held.drop (n - m.o.acked)).flatMap wireF, up := true, told := m.got }
def Lk.down (m : Lk) (now : Int) : Lk := if m.up = true then { m with up := false, since := now, wire := [] } else m
def Lk.part (m : Lk) (n : Int) : Nat := min (max n 0).toNat m.wire.length
def Lk.cutW (m : Lk) (n : Int) : Lk := { m with wire := m.wire.drop (m.part n) }
structure Lk.fine (m : Lk) : Prop where
  o : m.o.fine
  got : m.got ≤ 1099511627776
  told : m.told ≤ m.got
  wire : m.wire.length ≤ 1000000000000
theorem Lk.fine.new : Lk.new.fine := ⟨Ro.fine.new, by simp [Lk.new], Nat.le_refl _, by simp [Lk.new]⟩
theorem wireF_len (f : Fr) : (wireF f).length ≤ 607 := by
  unfold wireF
  split
  · rename_i h
    exact (sizeF_in h).2
  · simp
theorem flat_wire : ∀ (l : List Fr), (l.flatMap wireF).length ≤ 607 * l.length
  | [] => by simp
  | f :: l => by
    have h1 := flat_wire l
    have h2 := wireF_len f
    simp only [List.flatMap_cons, List.length_append, List.length_cons]
    omega
theorem wireF_ok {f : Fr} (h : checkF f = true) : wireF f = putF f := if_pos h
theorem flat_ok (l : List Fr) (h : ∀ f ∈ l, checkF f = true) : l.flatMap wireF = l.flatMap putF := by
  induction l with
  | nil => rfl
  | cons f l ih =>
    rw [List.flatMap_cons, List.flatMap_cons, ih (fun g hg => h g (List.mem_cons_of_mem _ hg)), wireF_ok (h f (List.mem_cons_self ..))]
theorem ackOf_check (n : Nat) (h : n ≤ 1099511627776) : checkF (ackOf n) = true := by
  have h1 : shapeF (ackOf n).kind = [1] := rfl
  unfold checkF
  rw [h1]
  have h2 : onlyF (ackOf n) [1] = ackOf n := rfl
  rw [h2]
  have h3 : (0 : Int) ≤ (n : Int) := by omega
  have h4 : (n : Int) ≤ 1099511627776 := by omega
  simp [goodF, ackOf, withinF, h3, h4]
theorem ack_got {f : Fr} (h : checkF f = true) (hk : f.kind = 6) : 0 ≤ f.got ∧ f.got ≤ 1099511627776 := by
  obtain ⟨h1, h2, _⟩ := (check_iff f).1 h
  have h3 : (1 : Nat) ∈ shapeF f.kind := by rw [hk]; decide
  exact (within_iff _ _ _).1 (h2 1 h3)
end Go.Proofs.YtipgimmgjdgdeaaDoor
