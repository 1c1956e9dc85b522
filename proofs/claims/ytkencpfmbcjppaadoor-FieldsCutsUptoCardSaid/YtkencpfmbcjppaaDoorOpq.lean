/- Opening a Cut. -/
import Derived.Test.YtkencpfmbcjppaaDoorOpc
set_option linter.unusedVariables false
set_option linter.unusedSimpArgs false
set_option linter.unnecessarySimpa false
namespace Go.Proofs.YtkencpfmbcjppaaDoor
open Go.RowKit Go.ChangeShapes Go.WideShapes Go.ChangeAt

theorem open_cut {H : Type} {enc : TypeId × Value → H} {W : World} {base : Nat} {v : Value} {d : DataW H} {ps : List MemPlace} (hok : Value.okWide Tryd.prog W .any base 58 v)
    (h : DataW.Trod enc Tryd.prog W 0 (fun _ => true) true 58 v d ps) :
    ∃ (s : ByteArray) (A : Option Addr) (n c : Nat) (cells : List Cell) (cut : Int) (m : UInt8), v = .agg #[.string s, .slice A n c, .int .i64 cut, .int .u8 m.toNat] ∧ n = cells.length ∧ n ≤ c ∧ RdC (· < W.heap.size) W A (cells.flatMap cellVs) ∧
      (∀ c ∈ cells, -9223372036854775808 ≤ c.n ∧ c.n ≤ 9223372036854775807 ∧ c.f < 2 ^ 64) ∧ -9223372036854775808 ≤ cut ∧ cut ≤ 9223372036854775807 ∧ s.size ≤ Rows.uptoBulk d ∧
      cost cells ≤ 8 * Rows.uptoBulk d ∧ cells.length + 1 ≤ Rows.uptoBulk d := by
  obtain ⟨vs, rfl, hsz⟩ := okWide_struct Tryd.underlying58 hok
  obtain ⟨fuel, hf⟩ := h
  obtain ⟨xs, k, _, e, hl, hlen, hi⟩ := DataW.trod_struct Tryd.underlying58 hf
  have hl4 : vs.toList.length = 4 := by
    have : vs.toList.length = Tryd.prog.cellsOf 58 := hl
    exact this.trans (by kernel_rfl)
  have k0 : Tryd.prog.cellsOf 3 = 1 := by kernel_rfl
  have k1 : Tryd.prog.cellsOf 5 = 1 := by kernel_rfl
  have k2 : Tryd.prog.cellsOf 9 = 1 := by kernel_rfl
  have k3 : Tryd.prog.cellsOf 22 = 1 := by kernel_rfl
  obtain ⟨vs⟩ := vs
  match vs, hl4 with
  | [c0, c1, c2, c3], _ =>
    match xs, hlen with
    | [y0, y1, y2, y3], _ =>
      have g0 : DataW.trod enc Tryd.prog W 0 (fun _ => true) true k 9 (([c0, c1, c2, c3].drop 0).take (Tryd.prog.cellsOf 9)) = some y0 := hi 0 _ rfl
      rw [k2] at g0
      have g1 : DataW.trod enc Tryd.prog W 0 (fun _ => true) true k 22 (([c0, c1, c2, c3].drop 1).take (Tryd.prog.cellsOf 22)) = some y1 := hi 1 _ rfl
      rw [k3] at g1
      have g2 : DataW.trod enc Tryd.prog W 0 (fun _ => true) true k 3 (([c0, c1, c2, c3].drop 2).take (Tryd.prog.cellsOf 3)) = some y2 := hi 2 _ rfl
      rw [k0] at g2
      have g3 : DataW.trod enc Tryd.prog W 0 (fun _ => true) true k 5 (([c0, c1, c2, c3].drop 3).take (Tryd.prog.cellsOf 5)) = some y3 := hi 3 _ rfl
      rw [k1] at g3
      obtain ⟨s, e0, e0', hs⟩ := trod_str Tryd.underlying9 (show DataW.trod enc Tryd.prog W 0 (fun _ => true) true k 9 [c0] = some y0 from g0)
      obtain ⟨A, n, c, cells, e1, hn, hc, _, hR, hnum, hcost, hcl⟩ := open_cells (show DataW.trod enc Tryd.prog W 0 (fun _ => true) true k 22 [c1] = some y1 from g1)
      obtain ⟨z, e2, e2', hw⟩ := DataW.trod_int Tryd.underlying3 (show DataW.trod enc Tryd.prog W 0 (fun _ => true) true k 3 [c2] = some y2 from g2)
      obtain ⟨z3, e3, e3', hw3⟩ := DataW.trod_int Tryd.underlying5 (show DataW.trod enc Tryd.prog W 0 (fun _ => true) true k 5 [c3] = some y3 from g3)
      have hz := Go.bounds_i64 hw
      have hz3 := Go.bounds_u8 hw3
      cases e0
      cases e2
      cases e3
      subst e1
      obtain ⟨m, rfl⟩ : ∃ m : UInt8, z3 = ((m.toNat : Nat) : Int) := ⟨UInt8.ofNat z3.toNat, by simp; omega⟩
      injection e with e _
      subst e e0'
      have hb : Rows.uptoBulk (DataW.agg (List.map (fun x => x.1) [((.lit (.string s.data.toList) : DataW H), ([] : List MemPlace)), y1, y2, y3])) = (s.size + 1) + (Rows.uptoBulk y1.1 + (Rows.uptoBulk y2.1 + (Rows.uptoBulk y3.1 + 0))) + 1 := by
        simp [Rows.uptoBulk, Rows.uptoBulkAll]
      exact ⟨s, A, n, c, cells, z, m, rfl, hn, hc, hR, hnum, hz.1, hz.2, by rw [hb]; omega, by rw [hb]; omega, by rw [hb]; omega⟩
end Go.Proofs.YtkencpfmbcjppaaDoor
