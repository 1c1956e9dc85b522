/- What a row's list of sentinels gives. -/
import Derived.Test.YtpekagkhgegefaaDoorCards
import Derived.Test.YtpekagkhgegefaaDoorTie
import Derived.Test.YtpekagkhgegefaaDoorRow
import Derived.Test.YtpekagkhgegefaaDoorErr
import Derived.ProofKit
import Derived.Carry
import Derived.ChangeSame
import Derived.MakeChecks
import Derived.LaidMore
import Derived.Stop.LaidErr
import Derived.OpenShut
import Derived.Deep.DeepHandedRow
import Derived.Deep.DeepWitnessRowRef
set_option linter.unusedVariables false
set_option linter.unusedSimpArgs false
set_option linter.unnecessarySimpa false
namespace Go.Proofs.YtpekagkhgegefaaDoor
open Go.RowKit Go.ChangeShapes Go.WideShapes Go.ChangeAt

/-- A sentinel as a datum. -/
def sent (t : List UInt8) : DataW Unit := .iface "*errors.errorString" (.ptr (.agg [.lit (.string t)]))
theorem rowErr (u : TypeId) (h : Tryd.prog.typeName? 3 u = some "*errors.errorString") : u = 147 :=
  typeName_ptr_named (nm := "errors.errorString") (by rw [show "*" ++ "errors.errorString" = "*errors.errorString" from by decide]; kernel_rfl) (by kernel_rfl) (by decide) u (by rw [show "*" ++ "errors.errorString" = "*errors.errorString" from by decide]; exact h)

set_option maxRecDepth 8000 in
/-- THE HEAD OF A ROW's LIST: the sentinel lies where its variable says; its text. -/
theorem laid_err {n : String} {text : List UInt8} {r : List (String × DataW Unit)} {W : World} {g : Nat} (h : laidMet Tryd.prog ((n, sent text) :: r) W) (hg : Tryd.prog.globalNamed n = some g)
    (ht : (Tryd.prog.globals[g]?).map (·.type) = some 30) :
    ∃ (a : Addr) (s : ByteArray), ErrAt W.heap.size W g a ∧ W.cell? a = some (.string s) ∧ s.data.toList = text := by
  obtain ⟨ps, ⟨g0, t0, cs0, f0, p0, q0, hg0, ht0, hv0, hd0, _, e0⟩, _, hrows⟩ := h
  obtain rfl := Option.some.inj (hg.symm.trans hg0)
  obtain rfl := Option.some.inj (ht.symm.trans ht0)
  subst e0
  obtain ⟨l0⟩ := cs0
  have ok0 : ∀ u v, l0 = [.iface u v] → Value.okWide Tryd.prog W .any 0 u v := fun u v e => by
    subst e
    exact (hrows g 0 (by simp [MemPlace.row])).2 u v (by simpa using World.var?_cell hg0 hv0 0)
  obtain ⟨a, s, rfl, hc, hs, _, rfl⟩ := errorString_of_trod Tryd.underlying30 rowErr Tryd.underlying147 Tryd.underlying163 rfl rfl Tryd.underlying9 (by kernel_rfl) (by kernel_rfl) hd0 ok0
  have hgc : W.cell? ⟨g, 0, none⟩ = some (.iface 147 (.pointer (some a))) := by simpa using World.var?_cell hg hv0 0
  exact ⟨a, s, ⟨World.block_lt_of_cell? W _ hgc, World.block_lt_of_cell? W _ hc, hgc, (hrows a.block a.off (by simp [MemPlace.row])).1⟩, hc, hs⟩
end Go.Proofs.YtpekagkhgegefaaDoor
