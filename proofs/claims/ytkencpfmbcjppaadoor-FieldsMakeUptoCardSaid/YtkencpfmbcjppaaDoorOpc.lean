/- Arguments opened: []fields.Cell. -/
import Derived.Test.YtkencpfmbcjppaaDoorOpen
import Derived.Test.YtkencpfmbcjppaaDoorFy
import Derived.Deep.Strs
set_option linter.unusedVariables false
set_option linter.unusedSimpArgs false
set_option linter.unnecessarySimpa false
namespace Go.Proofs.YtkencpfmbcjppaaDoor
open Go.RowKit Go.ChangeShapes Go.WideShapes Go.ChangeAt

section
variable {H : Type} {enc : TypeId × Value → H} {P : Program} {W : World}
theorem trod_float {t : TypeId} {k : FloatKind} {fuel : Nat} {cs : List Value} {x : DataW H × List MemPlace} (ht : P.underlying t = some (.float k)) (h : DataW.trod enc P W 0 (fun _ => true) true fuel t cs = some x) :
    ∃ b, cs = [.float k b] ∧ x = (.lit (.float k b), []) ∧ (Lit.float k b).wf = true := by
  cases fuel with
  | zero => simp [DataW.trod] at h
  | succ n =>
    unfold DataW.trod at h
    rw [ht] at h
    split at h <;> simp_all
theorem trod_str {t : TypeId} {fuel : Nat} {cs : List Value} {x : DataW H × List MemPlace} (ht : P.underlying t = some .string) (h : DataW.trod enc P W 0 (fun _ => true) true fuel t cs = some x) :
    ∃ s, cs = [.string s] ∧ x = (.lit (.string s.data.toList), []) ∧ s.size ≤ maxLen := by
  cases fuel with
  | zero => simp [DataW.trod] at h
  | succ n =>
    unfold DataW.trod at h
    rw [ht] at h
    split at h <;> simp_all
end
theorem cells_flat (chs : List (List Value)) (xs : List Cell) (hl : chs.length = xs.length) (h : ∀ i (h1 : i < chs.length) (h2 : i < xs.length), chs[i] = cellVs xs[i]) : chs.flatten = xs.flatMap cellVs := by
  have e : chs = xs.map cellVs := by
    apply List.ext_getElem
    · simp [hl]
    · intro i hi1 hi2
      rw [h i hi1 (by omega)]
      simp
  rw [e, List.flatMap_def]
theorem cost_sum : ∀ xs : List Cell, cost xs ≤ 8 * (xs.map fun c => 4 + c.s.size).sum
  | [] => by simp [cost]
  | c :: cs => by
    have ih := cost_sum cs
    have e : cost (c :: cs) = 8 + c.s.size + cost cs := by simp [cost]
    rw [e, List.map_cons, List.sum_cons]
    omega
theorem len_sum : ∀ xs : List Cell, xs.length ≤ (xs.map fun c => 4 + c.s.size).sum
  | [] => by simp
  | c :: cs => by
    have ih := len_sum cs
    rw [List.map_cons, List.sum_cons, List.length_cons]
    omega
/-- []fields.Cell. -/
theorem open_cells {H : Type} {enc : TypeId × Value → H} {W : World} {fuel : Nat} {v : Value} {x : DataW H × List MemPlace} (h : DataW.trod enc Tryd.prog W 0 (fun _ => true) true fuel 22 [v] = some x) :
    ∃ (A : Option Addr) (n c : Nat) (cells : List Cell), v = .slice A n c ∧ n = cells.length ∧ n ≤ c ∧ c ≤ maxLen ∧ RdC (· < W.heap.size) W A (cells.flatMap cellVs) ∧ (∀ c ∈ cells, -9223372036854775808 ≤ c.n ∧ c.n ≤ 9223372036854775807 ∧ c.f < 2 ^ 64) ∧
      cost cells ≤ 8 * Rows.uptoBulk x.1 ∧ cells.length + 1 ≤ Rows.uptoBulk x.1 := by
  obtain ⟨A, n, c, chs, xs, rfl, l1, l2, h1, h2, hR, hrep, hb⟩ := open_slice Tryd.underlying22 (show Tryd.prog.cellsOf 33 = 3 by kernel_rfl) (by omega)
    (fun cs (c : Cell) => cs = cellVs c ∧ (-9223372036854775808 ≤ c.n ∧ c.n ≤ 9223372036854775807 ∧ c.f < 2 ^ 64)) (fun c => 4 + c.s.size) (fun fuel cs y hy => by
    obtain ⟨y0, y1, y2, m, rfl, hl, g0, g1, g2⟩ := Go.Deep.trod_struct3 Tryd.underlying33 hy
    obtain ⟨z, e0, rfl, hw⟩ := DataW.trod_int Tryd.underlying3 g0
    obtain ⟨b, e1, rfl, hwf⟩ := trod_float Tryd.underlying31 g1
    obtain ⟨s, e2, rfl, hs⟩ := trod_str Tryd.underlying9 g2
    have hz := Go.bounds_i64 hw
    refine ⟨⟨z, b, s⟩, ⟨?_, hz.1, hz.2, ?_⟩, ?_⟩
    · have hl3 : cs.length = 3 := hl.trans (show Tryd.prog.cellsOf 33 = 3 by kernel_rfl)
      have k0 : Tryd.prog.cellsOf 3 = 1 := by kernel_rfl
      have k1 : Tryd.prog.cellsOf 31 = 1 := by kernel_rfl
      have k2 : Tryd.prog.cellsOf 9 = 1 := by kernel_rfl
      simp only [k0, k1, k2] at e0 e1 e2
      match cs, hl3 with
      | [c0, c1, c2], _ =>
        simp at e0 e1 e2
        subst e0 e1 e2
        rfl
    · simpa [Lit.wf] using hwf
    · simp [Rows.uptoBulk, Rows.uptoBulkAll]; omega) h
  refine ⟨A, n, c, xs, rfl, l2.symm, h1, h2, ?_, ?_, ?_, ?_⟩
  · rw [← cells_flat chs xs (by omega) (fun i h1 h2 => (hrep i h1 h2).1.1)]
    exact hR
  · intro c hc
    obtain ⟨i, hi, rfl⟩ := List.getElem_of_mem hc
    exact (hrep i (by omega) hi).1.2
  · have := cost_sum xs; omega
  · have := len_sum xs; omega
end Go.Proofs.YtkencpfmbcjppaaDoor
