/- Arguments opened: a []api.Frame, a []int. -/
import Derived.Test.YtipgimmgjdgdeaaDoorOpf
import Derived.Test.YtipgimmgjdgdeaaDoorSh
set_option linter.unusedVariables false
set_option linter.unusedSimpArgs false
set_option linter.unnecessarySimpa false
namespace Go.Proofs.YtipgimmgjdgdeaaDoor
open Go.RowKit Go.ChangeShapes Go.WideShapes Go.ChangeAt

theorem frsv_chunks {ok : Nat → Prop} {w : World} (chs : List (List Value)) (xs : List (Fr × Option Addr × Nat)) (hl : chs.length = xs.length)
    (h : ∀ i (h1 : i < chs.length) (h2 : i < xs.length), chs[i] = (frCs xs[i].1 xs[i].2.1 xs[i].2.2).toList ∧ RdC ok w xs[i].2.1 (bvs xs[i].1.bytes)) : FrsV ok w (xs.map (·.1)) chs.flatten := by
  have key : ∀ k, k ≤ chs.length → FrsV ok w ((xs.take k).map (·.1)) (chs.take k).flatten := by
    intro k
    induction k with
    | zero => intro _; exact .nil
    | succ k ih =>
      intro hk
      have h1 : k < chs.length := by omega
      have h2 : k < xs.length := by omega
      rw [List.take_succ_eq_append_getElem h1, List.take_succ_eq_append_getElem h2, List.map_append, List.flatten_append]
      obtain ⟨e, hr⟩ := h k h1 h2
      rw [e]
      simpa using FrsV.snoc (c := xs[k].2.2) (ih (by omega)) hr
  have h1 := key chs.length (Nat.le_refl _)
  rw [List.take_length, show chs.length = xs.length from hl, List.take_length] at h1
  exact h1
section
variable {H : Type} {enc : TypeId × Value → H} {W : World}
theorem open_frames {fuel : Nat} {v : Value} {x : DataW H × List MemPlace} (h : DataW.trod enc Tryd.prog W 0 (fun _ => true) true fuel 22 [v] = some x) :
    ∃ (A : Option Addr) (n c : Nat) (fs : List Fr), v = .slice A n c ∧ n = fs.length ∧ n ≤ c ∧ c ≤ maxLen ∧ RdFs W A fs ∧ (∀ f ∈ fs, f.lens ∧ f.fits) ∧ fs.length ≤ Rows.uptoBulk x.1 := by
  obtain ⟨A, n, c, chs, xs, rfl, l1, l2, h1, h2, hR, hrep, hb⟩ := open_slice (P := Tryd.prog) (size := 10) Tryd.underlying22 (by kernel_rfl) (by omega) (fun cs (p : Fr × Option Addr × Nat) => cs.length = 10 → cs = (frCs p.1 p.2.1 p.2.2).toList ∧ FrIn p.1 p.2.1 p.2.2 W) (fun _ => 1) (fun fuel cs y hy => by
    by_cases hl : cs.length = 10
    · match cs, hl with
      | [v0, v1, v2, v3, v4, v5, v6, v7, v8, v9], _ =>
        obtain ⟨f, A, c, e, hin⟩ := open_frame10 hy
        exact ⟨(f, A, c), fun _ => ⟨e, hin⟩, bulk_pos _⟩
    · exact ⟨(Fr.of 0, none, 0), fun e => absurd e hl, bulk_pos _⟩) h
  have key : ∀ i (h1 : i < chs.length) (h2 : i < xs.length), chs[i] = (frCs xs[i].1 xs[i].2.1 xs[i].2.2).toList ∧ FrIn xs[i].1 xs[i].2.1 xs[i].2.2 W := fun i h1 h2 => (hrep i h1 h2).1 (hrep i h1 h2).2
  refine ⟨A, n, c, xs.map (·.1), rfl, by simp [l2], h1, h2, ⟨chs.flatten, hR, frsv_chunks chs xs (by omega) (fun i h1 h2 => ⟨(key i h1 h2).1, (key i h1 h2).2.rd⟩)⟩, ?_, ?_⟩
  · intro f hf
    obtain ⟨p, hp, rfl⟩ := List.mem_map.1 hf
    obtain ⟨i, hi, rfl⟩ := List.getElem_of_mem hp
    have hk := (key i (by omega) hi).2
    exact ⟨hk.lens, hk.fits⟩
  · have := sum_ones xs
    simp at *
    omega
def intsV (zs : List Int) : List Value := zs.map (Value.int .i64)
theorem intsV_get (zs : List Int) (i : Nat) (h : i < zs.length) : (intsV zs)[i]? = some (.int .i64 zs[i]) := by simp [intsV, h]
theorem open_ints {fuel : Nat} {v : Value} {x : DataW H × List MemPlace} (h : DataW.trod enc Tryd.prog W 0 (fun _ => true) true fuel 23 [v] = some x) :
    ∃ (A : Option Addr) (n c : Nat) (zs : List Int), v = .slice A n c ∧ n = zs.length ∧ n ≤ c ∧ c ≤ maxLen ∧ RdC (· < W.heap.size) W A (intsV zs) ∧ ∀ z ∈ zs, inI z := by
  obtain ⟨A, n, c, chs, xs, rfl, l1, l2, h1, h2, hR, hrep, hb⟩ := open_slice (P := Tryd.prog) (size := 1) Tryd.underlying23 (by kernel_rfl) (by omega) (fun cs (z : Int) => cs = [.int .i64 z] ∧ inI z) (fun _ => 1) (fun fuel cs y hy => by
    obtain ⟨z, rfl, rfl, hw⟩ := DataW.trod_int Tryd.underlying3 hy
    exact ⟨z, ⟨rfl, Go.bounds_i64 hw⟩, bulk_pos _⟩) h
  refine ⟨A, n, c, xs, rfl, l2.symm, h1, h2, ?_, ?_⟩
  · have e : chs = xs.map fun z => [Value.int .i64 z] := by
      apply List.ext_getElem
      · simp [l1, l2]
      · intro i hi1 hi2
        have := (hrep i hi1 (by omega)).1.1
        simp [this]
    have : chs.flatten = intsV xs := by
      rw [e]
      clear hrep l1 l2 hR hb e
      induction xs with
      | nil => rfl
      | cons z xs ih => simpa [intsV] using ih
    rw [← this]
    exact hR
  · intro z hz
    obtain ⟨i, hi, rfl⟩ := List.getElem_of_mem hz
    exact (hrep i (by omega) hi).1.2
end
end Go.Proofs.YtipgimmgjdgdeaaDoor
