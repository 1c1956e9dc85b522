/- Arguments opened: an int, a []int. -/
import Derived.Test.YtlhoicbgahnagaaDoorOpen
import Derived.Test.YtlhoicbgahnagaaDoorGd
set_option linter.unusedVariables false
set_option linter.unusedSimpArgs false
set_option linter.unnecessarySimpa false
namespace Go.Proofs.YtlhoicbgahnagaaDoor
open Go.RowKit Go.ChangeShapes Go.WideShapes Go.ChangeAt

section
variable {H : Type} {enc : TypeId × Value → H} {P : Program} {W : World}
theorem open_ints {t e : TypeId} {fuel : Nat} {v : Value} {x : DataW H × List MemPlace} (ht : P.underlying t = some (.slice e)) (he : P.underlying e = some (.int .i64)) (hc : P.cellsOf e = 1)
    (h : DataW.trod enc P W 0 (fun _ => true) true fuel t [v] = some x) :
    ∃ (A : Option Addr) (n c : Nat) (zs : List Int), v = .slice A n c ∧ n = zs.length ∧ n ≤ c ∧ c ≤ maxLen ∧ RdC (· < W.heap.size) W A (ints zs) := by
  obtain ⟨A, n, c, chs, xs, rfl, l1, l2, h1, h2, hR, hrep, hb⟩ := open_slice ht hc (by omega) (fun cs (z : Int) => cs = [.int .i64 z]) (fun _ => 1) (fun fuel cs y hy => by
    obtain ⟨z, rfl, rfl, hw⟩ := DataW.trod_int he hy
    exact ⟨z, rfl, bulk_pos _⟩) h
  refine ⟨A, n, c, xs, rfl, l2.symm, h1, h2, ?_⟩
  have : chs.flatten = ints xs := by
    have e : chs = xs.map fun z => [.int .i64 z] := by
      apply List.ext_getElem
      · simp [l1, l2]
      · intro i hi1 hi2
        have := (hrep i hi1 (by omega)).1
        simp [this]
    rw [e]
    clear hrep l1 l2 hR hb e
    induction xs with
    | nil => rfl
    | cons z xs ih => simpa [ints] using ih
  rw [← this]
  exact hR
end
end Go.Proofs.YtlhoicbgahnagaaDoor
