/- Arguments opened: two frames, a place and a byte. -/
import Derived.Test.YtpekagkhgegefaaDoorOpf
set_option linter.unusedVariables false
set_option linter.unusedSimpArgs false
set_option linter.unnecessarySimpa false
namespace Go.Proofs.YtpekagkhgegefaaDoor
open Go.RowKit Go.ChangeShapes Go.WideShapes Go.ChangeAt

section
variable {H : Type} {enc : TypeId × Value → H} {W : World}
set_option maxRecDepth 8000 in
theorem open_two {base : Nat} {v : Value} {d : DataW H} {ps : List MemPlace} (hval : Value.okWide Tryd.prog W .any base 61 v) (h : DataW.Trod enc Tryd.prog W 0 (fun _ => true) true 61 v d ps) :
    ∃ (a b : Fr) (A B : Option Addr) (ca cb : Nat) (z t : Int), v = .agg #[.int .i64 a.kind, .int .i64 a.seq, .int .i64 a.got, .int .i64 a.stream, .int .i64 a.amount, .int .i64 a.code, .string a.who, .string a.name, .float .f64 a.weight, .slice A a.bytes.length ca, .int .i64 b.kind, .int .i64 b.seq, .int .i64 b.got, .int .i64 b.stream, .int .i64 b.amount, .int .i64 b.code, .string b.who, .string b.name, .float .f64 b.weight, .slice B b.bytes.length cb, .int .i64 z, .int .u8 t] ∧ FrIn a A ca W ∧ FrIn b B cb W ∧ 0 ≤ t ∧ t ≤ 255 := by
  obtain ⟨cs, rfl, hsz⟩ := okWide_struct Tryd.underlying61 hval
  rw [show Tryd.prog.cellsOf 61 = 22 by kernel_rfl] at hsz
  obtain ⟨fuel, hf⟩ := h
  obtain ⟨xs, m, _, hx, _, hlen, hg⟩ := DataW.trod_struct Tryd.underlying61 hf
  have kr : Tryd.prog.cellsOf 25 = 10 := by kernel_rfl
  have ki : Tryd.prog.cellsOf 3 = 1 := by kernel_rfl
  have ku : Tryd.prog.cellsOf 5 = 1 := by kernel_rfl
  obtain ⟨l⟩ := cs
  match l, hsz with
  | [v0, v1, v2, v3, v4, v5, v6, v7, v8, v9, u0, u1, u2, u3, u4, u5, u6, u7, u8, u9, va, vb], _ =>
    match xs, hlen with
    | [y0, y1, y2, y3], _ =>
      have g0 : DataW.trod enc Tryd.prog W 0 (fun _ => true) true m 25 [v0, v1, v2, v3, v4, v5, v6, v7, v8, v9] = some y0 := hg 0 _ rfl
      have g1 : DataW.trod enc Tryd.prog W 0 (fun _ => true) true m 25 [u0, u1, u2, u3, u4, u5, u6, u7, u8, u9] = some y1 := hg 1 _ rfl
      have g2 : DataW.trod enc Tryd.prog W 0 (fun _ => true) true m 3 [va] = some y2 := hg 2 _ rfl
      have g3 : DataW.trod enc Tryd.prog W 0 (fun _ => true) true m 5 [vb] = some y3 := hg 3 _ rfl
      obtain ⟨a, A, ca, e, ha⟩ := open_frame10 g0
      obtain ⟨b, B, cb, e', hb⟩ := open_frame10 g1
      obtain ⟨z, e1, _, w1⟩ := DataW.trod_int Tryd.underlying3 g2
      obtain ⟨t, e2, _, w2⟩ := DataW.trod_int Tryd.underlying5 g3
      injection e1 with e1 _
      injection e2 with e2 _
      subst e1 e2
      refine ⟨a, b, A, B, ca, cb, z, t, ?_, ha, hb, (Go.bounds_u8 w2).1, (Go.bounds_u8 w2).2⟩
      have e4 : [v0, v1, v2, v3, v4, v5, v6, v7, v8, v9, u0, u1, u2, u3, u4, u5, u6, u7, u8, u9, .int .i64 z, .int .u8 t] = (frCs a A ca).toList ++ ((frCs b B cb).toList ++ [.int .i64 z, .int .u8 t]) := by rw [← e, ← e']; rfl
      show Value.agg (List.toArray _) = _
      rw [e4]
      rfl
end
end Go.Proofs.YtpekagkhgegefaaDoor
