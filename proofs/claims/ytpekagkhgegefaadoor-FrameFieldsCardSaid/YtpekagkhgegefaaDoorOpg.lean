/- Arguments opened: a frame and which of its fields is set. -/
import Derived.Test.YtpekagkhgegefaaDoorOpf
set_option linter.unusedVariables false
set_option linter.unusedSimpArgs false
set_option linter.unnecessarySimpa false
namespace Go.Proofs.YtpekagkhgegefaaDoor
open Go.RowKit Go.ChangeShapes Go.WideShapes Go.ChangeAt

section
variable {H : Type} {enc : TypeId × Value → H} {W : World}
set_option maxRecDepth 8000 in
theorem open_field {base : Nat} {v : Value} {d : DataW H} {ps : List MemPlace} (hval : Value.okWide Tryd.prog W .any base 27 v) (h : DataW.Trod enc Tryd.prog W 0 (fun _ => true) true 27 v d ps) :
    ∃ (f : Fr) (A : Option Addr) (c : Nat) (z n : Int) (s : ByteArray), v = .agg (frCs f A c ++ #[.int .i64 z, .int .i64 n, .string s]) ∧ FrIn f A c W ∧ inI z ∧ inI n ∧ s.size ≤ maxLen := by
  obtain ⟨cs, rfl, hsz⟩ := okWide_struct Tryd.underlying27 hval
  rw [show Tryd.prog.cellsOf 27 = 13 by kernel_rfl] at hsz
  obtain ⟨fuel, hf⟩ := h
  obtain ⟨xs, m, _, hx, _, hlen, hg⟩ := DataW.trod_struct Tryd.underlying27 hf
  have kr : Tryd.prog.cellsOf 25 = 10 := by kernel_rfl
  have ks : Tryd.prog.cellsOf 9 = 1 := by kernel_rfl
  have ki : Tryd.prog.cellsOf 3 = 1 := by kernel_rfl
  obtain ⟨l⟩ := cs
  match l, hsz with
  | [v0, v1, v2, v3, v4, v5, v6, v7, v8, v9, va, vb, vc], _ =>
    match xs, hlen with
    | [y0, y1, y2, y3], _ =>
      have g0 : DataW.trod enc Tryd.prog W 0 (fun _ => true) true m 25 [v0, v1, v2, v3, v4, v5, v6, v7, v8, v9] = some y0 := hg 0 _ rfl
      have g1 : DataW.trod enc Tryd.prog W 0 (fun _ => true) true m 3 [va] = some y1 := hg 1 _ rfl
      have g2 : DataW.trod enc Tryd.prog W 0 (fun _ => true) true m 3 [vb] = some y2 := hg 2 _ rfl
      have g3 : DataW.trod enc Tryd.prog W 0 (fun _ => true) true m 9 [vc] = some y3 := hg 3 _ rfl
      obtain ⟨f, A, c, e, hin⟩ := open_frame10 g0
      obtain ⟨z, e1, _, w1⟩ := DataW.trod_int Tryd.underlying3 g1
      obtain ⟨n, e2, _, w2⟩ := DataW.trod_int Tryd.underlying3 g2
      obtain ⟨s, e3, hs⟩ := trod_strF Tryd.underlying9 g3
      injection e1 with e1 _
      injection e2 with e2 _
      injection e3 with e3 _
      subst e1 e2 e3
      refine ⟨f, A, c, z, n, s, ?_, hin, Go.bounds_i64 w1, Go.bounds_i64 w2, hs⟩
      have e4 : [v0, v1, v2, v3, v4, v5, v6, v7, v8, v9, .int .i64 z, .int .i64 n, .string s] = (frCs f A c).toList ++ [.int .i64 z, .int .i64 n, .string s] := by rw [← e]; rfl
      show Value.agg (List.toArray _) = _
      rw [e4]
      rfl
end
end Go.Proofs.YtpekagkhgegefaaDoor
