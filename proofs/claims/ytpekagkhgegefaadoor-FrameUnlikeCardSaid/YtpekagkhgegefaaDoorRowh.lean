/- What a row's list says of the words of the rounds (package hash). -/
import Derived.Test.YtpekagkhgegefaaDoorRow
import Derived.Test.YtpekagkhgegefaaDoorHw
set_option linter.unusedVariables false
set_option linter.unusedSimpArgs false
set_option linter.unnecessarySimpa false
namespace Go.Proofs.YtpekagkhgegefaaDoor
open Go.RowKit Go.ChangeShapes Go.WideShapes Go.ChangeAt

theorem laid_words : (Rows.laid_jackfield_hash_round : DataW Unit) = .agg (roundWords.map fun x : Nat => .lit (.int .u32 (x : Int))) := by
  unfold Rows.laid_jackfield_hash_round
  rfl
set_option maxRecDepth 8000 in
theorem laid_round {r : List (String × DataW Unit)} {W : World} (h : laidMet Tryd.prog (("jackfield/hash.round", Rows.laid_jackfield_hash_round) :: r) W) : RoundAt W := by
  obtain ⟨ps, ⟨g0, t0, cs0, f0, p0, q0, hg0, ht0, hv0, hd0, _, e0⟩, _, hrows⟩ := h
  have hg : Tryd.prog.globalNamed "jackfield/hash.round" = some 19 := by kernel_rfl
  have ht : (Tryd.prog.globals[19]?).map (·.type) = some 145 := by kernel_rfl
  obtain rfl := Option.some.inj (hg.symm.trans hg0)
  obtain rfl := Option.some.inj (ht.symm.trans ht0)
  rw [laid_words] at hd0
  obtain ⟨xs, m, rfl, e, hlen, hxl, hel⟩ := DataW.trod_array Tryd.underlying145 hd0
  injection e with e _
  injection e with e
  have hc : Tryd.prog.cellsOf 107 = 1 := by kernel_rfl
  have key : ∀ j (hj : j < 64), cs0.toList[j]? = some (.int .u32 ((roundWords.getD j 0 : Nat) : Int)) := fun j hj => by
    have h1 := hel j hj
    rw [hc, Nat.mul_one] at h1
    have hjx : j < xs.length := by omega
    rw [List.getElem?_eq_getElem hjx] at h1
    obtain ⟨z, hz1, hz2, _⟩ := DataW.trod_int Tryd.underlying107 h1
    have h2 : (xs.map (·.1))[j]? = some (xs[j].1) := by simp [hjx]
    rw [← e, List.getElem?_map] at h2
    have hjr : j < roundWords.length := hj
    rw [List.getElem?_eq_getElem hjr, Option.map_some, hz2] at h2
    injection h2 with h2
    injection h2 with h2
    injection h2 with _ h2
    have h3 : cs0.toList[j]? = (((cs0.toList.drop j).take 1))[0]? := by
      rw [List.getElem?_take]
      simp
    rw [h3, hz1, ← h2]
    simp [hjr]
  have hcell : ∀ j, W.cell? ⟨19, j, none⟩ = cs0[j]? := fun j => World.var?_cell hg hv0 j
  refine ⟨?_, fun j v hj => ?_⟩
  · have := hcell 0
    rw [← Array.getElem?_toList, key 0 (by omega)] at this
    exact World.block_lt_of_cell? W _ this
  · rw [Nat.zero_add, hcell j, ← Array.getElem?_toList]
    have hj64 : j < 64 := by
      have h1 := (List.getElem?_eq_some_iff.1 hj).1
      have h2 : j < roundWords.length := by simpa [u32s] using h1
      exact h2
    rw [key j hj64]
    have hjr : j < roundWords.length := hj64
    simp [u32s, hjr] at hj
    rw [← hj]
    simp [hjr]
end Go.Proofs.YtpekagkhgegefaaDoor
