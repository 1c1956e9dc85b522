/- Arguments opened: a case of layer 10; what the rows of layer 10 list. -/
import Derived.Test.YtnnokbipcenbgaaDoorOpen
import Derived.Test.YtnnokbipcenbgaaDoorRowe
import Derived.Test.YtnnokbipcenbgaaDoorRowh
import Derived.Test.YtnnokbipcenbgaaDoorPk
set_option linter.unusedVariables false
set_option linter.unusedSimpArgs false
set_option linter.unnecessarySimpa false
namespace Go.Proofs.YtnnokbipcenbgaaDoor
open Go.RowKit Go.ChangeShapes Go.WideShapes Go.ChangeAt

section
variable {H : Type} {enc : TypeId × Value → H} {W : World}
theorem trod_str_one {P : Program} {t : TypeId} {fuel : Nat} {cs : List Value} {x : DataW H × List MemPlace} (ht : P.underlying t = some .string) (h : DataW.trod enc P W 0 (fun _ => true) true fuel t cs = some x) :
    ∃ s, cs = [.string s] ∧ s.size ≤ maxLen := by
  cases fuel with
  | zero => simp [DataW.trod] at h
  | succ n =>
    unfold DataW.trod at h
    rw [ht] at h
    split at h <;> simp_all
set_option maxRecDepth 8000 in
/-- A case, field by field. -/
theorem open_case {base : Nat} {v : Value} {d : DataW H} {ps : List MemPlace} (hval : Value.okWide Tryd.prog W .any base 24 v) (h : DataW.Trod enc Tryd.prog W 0 (fun _ => true) true 24 v d ps) :
    ∃ (K N R : Option Addr) (kc nc rc : Nat) (key nonce by_ : Bs) (who : ByteArray) (n : Int), v = .agg #[.slice K key.length kc, .slice N nonce.length nc, .string who, .int .i64 n, .slice R by_.length rc] ∧
      RdC (· < W.heap.size) W K (bvs key) ∧ RdC (· < W.heap.size) W N (bvs nonce) ∧ RdC (· < W.heap.size) W R (bvs by_) ∧ key.length ≤ kc ∧ nonce.length ≤ nc ∧ by_.length ≤ rc ∧ kc ≤ maxLen ∧ nc ≤ maxLen ∧ rc ≤ maxLen ∧ who.size ≤ maxLen ∧
      -9223372036854775808 ≤ n ∧ n ≤ 9223372036854775807 := by
  obtain ⟨cs, rfl, hsz⟩ := okWide_struct Tryd.underlying24 hval
  rw [show Tryd.prog.cellsOf 24 = 5 by kernel_rfl] at hsz
  obtain ⟨fuel, hf⟩ := h
  obtain ⟨xs, m, _, hx, _, hlen, hg⟩ := DataW.trod_struct Tryd.underlying24 hf
  have kb : Tryd.prog.cellsOf 22 = 1 := by kernel_rfl
  have ks : Tryd.prog.cellsOf 9 = 1 := by kernel_rfl
  have ki : Tryd.prog.cellsOf 3 = 1 := by kernel_rfl
  have ku : Tryd.prog.cellsOf 5 = 1 := by kernel_rfl
  obtain ⟨l⟩ := cs
  match l, hsz with
  | [c0, c1, c2, c3, c4], _ =>
    match xs, hlen with
    | [y0, y1, y2, y3, y4], _ =>
      have g0 := hg 0 _ rfl
      have g1 := hg 1 _ rfl
      have g2 := hg 2 _ rfl
      have g3 := hg 3 _ rfl
      have g4 := hg 4 _ rfl
      simp only [Value.cells, kb, ks, ki] at g0 g1 g2 g3 g4
      simp at g0 g1 g2 g3 g4
      obtain ⟨K, n0, kc, key, rfl, rfl, a1, a2, a3, _⟩ := open_bytes Tryd.underlying22 Tryd.underlying5 ku g0
      obtain ⟨N, n1, nc, nonce, rfl, rfl, b1, b2, b3, _⟩ := open_bytes Tryd.underlying22 Tryd.underlying5 ku g1
      obtain ⟨s, e2, hs⟩ := trod_str_one Tryd.underlying9 g2
      obtain ⟨z, e3, _, hw⟩ := DataW.trod_int Tryd.underlying3 g3
      obtain ⟨R, n4, rc, by_, rfl, rfl, d1, d2, d3, _⟩ := open_bytes Tryd.underlying22 Tryd.underlying5 ku g4
      injection e2 with e2 _
      injection e3 with e3 _
      subst e2 e3
      have hz := Go.bounds_i64 hw
      exact ⟨K, N, R, kc, nc, rc, key, nonce, by_, s, z, rfl, a3, b3, d3, a1, b1, d1, a2, b2, d2, hs, hz.1, hz.2⟩
end
end Go.Proofs.YtnnokbipcenbgaaDoor
