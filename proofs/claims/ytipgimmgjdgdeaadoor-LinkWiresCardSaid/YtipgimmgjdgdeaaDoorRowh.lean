/- What a row's list says of the words of the rounds (package hash). -/
import Derived.Test.YtipgimmgjdgdeaaDoorCards
import Derived.Test.YtipgimmgjdgdeaaDoorTie
import Derived.Test.YtipgimmgjdgdeaaDoorOpen
import Derived.Test.YtipgimmgjdgdeaaDoorFs
import Derived.ProofKit
import Derived.Carry
import Derived.ChangeSame
import Derived.MakeChecks
import Derived.LaidMore
import Derived.Stop.LaidErr
import Derived.OpenShut
import Derived.Deep.DeepHandedRow
import Derived.Deep.DeepWitnessRowRef
import Derived.Test.YtipgimmgjdgdeaaDoorHw
set_option linter.unusedVariables false
set_option linter.unusedSimpArgs false
set_option linter.unnecessarySimpa false
namespace Go.Proofs.YtipgimmgjdgdeaaDoor
open Go.RowKit Go.ChangeShapes Go.WideShapes Go.ChangeAt

/-- A sentinel as a datum. -/
def sent (t : List UInt8) : DataW Unit := .iface "*errors.errorString" (.ptr (.agg [.lit (.string t)]))
theorem rowErr (u : TypeId) (h : Tryd.prog.typeName? 3 u = some "*errors.errorString") : u = 160 :=
  typeName_ptr_named (nm := "errors.errorString") (by rw [show "*" ++ "errors.errorString" = "*errors.errorString" from by decide]; kernel_rfl) (by kernel_rfl) (by decide) u (by rw [show "*" ++ "errors.errorString" = "*errors.errorString" from by decide]; exact h)

set_option maxRecDepth 8000 in
/-- THE HEAD OF A ROW's LIST: the sentinel lies where its variable says; its text. -/
theorem laid_err {n : String} {text : List UInt8} {r : List (String × DataW Unit)} {W : World} {g : Nat} (h : laidMet Tryd.prog ((n, sent text) :: r) W) (hg : Tryd.prog.globalNamed n = some g)
    (ht : (Tryd.prog.globals[g]?).map (·.type) = some 35) :
    ∃ (a : Addr) (s : ByteArray), ErrAt W.heap.size W g a ∧ W.cell? a = some (.string s) ∧ s.data.toList = text := by
  obtain ⟨ps, ⟨g0, t0, cs0, f0, p0, q0, hg0, ht0, hv0, hd0, _, e0⟩, _, hrows⟩ := h
  obtain rfl := Option.some.inj (hg.symm.trans hg0)
  obtain rfl := Option.some.inj (ht.symm.trans ht0)
  subst e0
  obtain ⟨l0⟩ := cs0
  have ok0 : ∀ u v, l0 = [.iface u v] → Value.okWide Tryd.prog W .any 0 u v := fun u v e => by
    subst e
    exact (hrows g 0 (by simp [MemPlace.row])).2 u v (by simpa using World.var?_cell hg0 hv0 0)
  obtain ⟨a, s, rfl, hc, hs, _, rfl⟩ := errorString_of_trod Tryd.underlying35 rowErr Tryd.underlying160 Tryd.underlying176 rfl rfl Tryd.underlying9 (by kernel_rfl) (by kernel_rfl) hd0 ok0
  have hgc : W.cell? ⟨g, 0, none⟩ = some (.iface 160 (.pointer (some a))) := by simpa using World.var?_cell hg hv0 0
  exact ⟨a, s, ⟨World.block_lt_of_cell? W _ hgc, World.block_lt_of_cell? W _ hc, hgc, (hrows a.block a.off (by simp [MemPlace.row])).1⟩, hc, hs⟩
end Go.Proofs.YtipgimmgjdgdeaaDoor
/- What a row's list of sentinels gives. -/
set_option linter.unusedVariables false
set_option linter.unusedSimpArgs false
set_option linter.unnecessarySimpa false
namespace Go.Proofs.YtipgimmgjdgdeaaDoor
open Go.RowKit Go.ChangeShapes Go.WideShapes Go.ChangeAt

theorem laid_words : (Rows.laid_jackfield_hash_round : DataW Unit) = .agg (roundWords.map fun x : Nat => .lit (.int .u32 (x : Int))) := by
  unfold Rows.laid_jackfield_hash_round
  rfl
set_option maxRecDepth 8000 in
theorem laid_round {r : List (String × DataW Unit)} {W : World} (h : laidMet Tryd.prog (("jackfield/hash.round", Rows.laid_jackfield_hash_round) :: r) W) : RoundAt W := by
  obtain ⟨ps, ⟨g0, t0, cs0, f0, p0, q0, hg0, ht0, hv0, hd0, _, e0⟩, _, hrows⟩ := h
  have hg : Tryd.prog.globalNamed "jackfield/hash.round" = some 19 := by kernel_rfl
  have ht : (Tryd.prog.globals[19]?).map (·.type) = some 157 := by kernel_rfl
  obtain rfl := Option.some.inj (hg.symm.trans hg0)
  obtain rfl := Option.some.inj (ht.symm.trans ht0)
  rw [laid_words] at hd0
  obtain ⟨xs, m, rfl, e, hlen, hxl, hel⟩ := DataW.trod_array Tryd.underlying157 hd0
  injection e with e _
  injection e with e
  have hc : Tryd.prog.cellsOf 152 = 1 := by kernel_rfl
  have key : ∀ j (hj : j < 64), cs0.toList[j]? = some (.int .u32 ((roundWords.getD j 0 : Nat) : Int)) := fun j hj => by
    have h1 := hel j hj
    rw [hc, Nat.mul_one] at h1
    have hjx : j < xs.length := by omega
    rw [List.getElem?_eq_getElem hjx] at h1
    obtain ⟨z, hz1, hz2, _⟩ := DataW.trod_int Tryd.underlying152 h1
    have h2 : (xs.map (·.1))[j]? = some (xs[j].1) := by simp [hjx]
    rw [← e, List.getElem?_map] at h2
    have hjr : j < roundWords.length := hj
    rw [List.getElem?_eq_getElem hjr, Option.map_some, hz2] at h2
    injection h2 with h2
    injection h2 with h2
    injection h2 with _ h2
    have h3 : cs0.toList[j]? = (((cs0.toList.drop j).take 1))[0]? := by
      rw [List.getElem?_take]
      simp
    rw [h3, hz1, ← h2]
    simp [hjr]
  have hcell : ∀ j, W.cell? ⟨19, j, none⟩ = cs0[j]? := fun j => World.var?_cell hg hv0 j
  refine ⟨?_, fun j v hj => ?_⟩
  · have := hcell 0
    rw [← Array.getElem?_toList, key 0 (by omega)] at this
    exact World.block_lt_of_cell? W _ this
  · rw [Nat.zero_add, hcell j, ← Array.getElem?_toList]
    have hj64 : j < 64 := by
      have h1 := (List.getElem?_eq_some_iff.1 hj).1
      have h2 : j < roundWords.length := by simpa [u32s] using h1
      exact h2
    rw [key j hj64]
    have hjr : j < roundWords.length := hj64
    simp [u32s, hjr] at hj
    rw [← hj]
    simp [hjr]
end Go.Proofs.YtipgimmgjdgdeaaDoor
