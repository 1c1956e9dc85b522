/- Arguments opened: a [][]byte. -/
import Derived.Test.YtpekagkhgegefaaDoorOpen
import Derived.Test.YtpekagkhgegefaaDoorHd
set_option linter.unusedVariables false
set_option linter.unusedSimpArgs false
set_option linter.unnecessarySimpa false
namespace Go.Proofs.YtpekagkhgegefaaDoor
open Go.RowKit Go.ChangeShapes Go.WideShapes Go.ChangeAt

section
variable {H : Type} {enc : TypeId × Value → H} {P : Program} {W : World}
theorem trod_slice_one {t e : TypeId} {fuel : Nat} {cs : List Value} {x : DataW H × List MemPlace} (ht : P.underlying t = some (.slice e)) (h : DataW.trod enc P W 0 (fun _ => true) true fuel t cs = some x) : ∃ v, cs = [v] := by
  cases fuel with
  | zero => simp [DataW.trod] at h
  | succ n =>
    unfold DataW.trod at h
    rw [ht] at h
    split at h <;> simp_all
theorem rows_flat (chs : List (List Value)) (xs : List (Option Addr × Nat × Bs)) (hl : chs.length = xs.length) (h : ∀ i (h1 : i < chs.length) (h2 : i < xs.length), chs[i] = [.slice xs[i].1 xs[i].2.2.length xs[i].2.1]) : chs.flatten = xs.map fun p => .slice p.1 p.2.2.length p.2.1 := by
  have e : chs = xs.map fun p => [.slice p.1 p.2.2.length p.2.1] := by
    apply List.ext_getElem
    · simp [hl]
    · intro i hi1 hi2
      rw [h i hi1 (by omega)]
      simp
  rw [e]
  clear e h hl
  induction xs with
  | nil => rfl
  | cons x xs ih => simpa using ih
theorem open_rows {t e b : TypeId} {fuel : Nat} {v : Value} {x : DataW H × List MemPlace} (ht : P.underlying t = some (.slice e)) (he : P.underlying e = some (.slice b)) (hb : P.underlying b = some (.int .u8)) (hc : P.cellsOf e = 1) (hc2 : P.cellsOf b = 1)
    (h : DataW.trod enc P W 0 (fun _ => true) true fuel t [v] = some x) :
    ∃ (A : Option Addr) (n c : Nat) (vs : List Value) (ps : List Bs), v = .slice A n c ∧ n = ps.length ∧ n ≤ c ∧ c ≤ maxLen ∧ RdC (· < W.heap.size) W A vs ∧ RowsOf (· < W.heap.size) W vs ps ∧ ∀ p ∈ ps, p.length ≤ maxLen := by
  obtain ⟨A, n, c, chs, xs, rfl, l1, l2, h1, h2, hR, hrep, _⟩ := open_slice ht hc (by omega) (fun cs (p : Option Addr × Nat × Bs) => cs = [.slice p.1 p.2.2.length p.2.1] ∧ RdC (· < W.heap.size) W p.1 (bvs p.2.2) ∧ p.2.2.length ≤ p.2.1 ∧ p.2.1 ≤ maxLen) (fun _ => 1) (fun fuel cs y hy => by
    obtain ⟨v, rfl⟩ := trod_slice_one he hy
    obtain ⟨A, n, c, b, rfl, rfl, k1, k2, k3, _⟩ := open_bytes he hb hc2 hy
    exact ⟨(A, c, b), ⟨rfl, k3, k1, k2⟩, bulk_pos _⟩) h
  refine ⟨A, n, c, chs.flatten, xs.map (·.2.2), rfl, by simp [l2], h1, h2, hR, ?_, ?_⟩
  · rw [rows_flat chs xs (by omega) (fun i h1 h2 => (hrep i h1 h2).1.1)]
    refine ⟨by simp, fun i hi => ?_⟩
    have hi2 : i < xs.length := by simpa using hi
    have hr := (hrep i (by omega) hi2).1
    refine ⟨xs[i].1, xs[i].2.1, by simp [hi2], by simpa using hr.2.1, by simpa using hr.2.2.1⟩
  · intro p hp
    obtain ⟨q, hq, rfl⟩ := List.mem_map.1 hp
    obtain ⟨i, hi, rfl⟩ := List.getElem_of_mem hq
    have hr := (hrep i (by omega) hi).1
    exact Nat.le_trans hr.2.2.1 hr.2.2.2
end
end Go.Proofs.YtpekagkhgegefaaDoor
