/- Arguments opened: a frame; what the rows of layer 5 list. -/
import Derived.Test.YtipgimmgjdgdeaaDoorOpen
import Derived.Test.YtipgimmgjdgdeaaDoorRowh
import Derived.Test.YtipgimmgjdgdeaaDoorVb
set_option linter.unusedVariables false
set_option linter.unusedSimpArgs false
set_option linter.unnecessarySimpa false
namespace Go.Proofs.YtipgimmgjdgdeaaDoor
open Go.RowKit Go.ChangeShapes Go.WideShapes Go.ChangeAt

section
variable {H : Type} {enc : TypeId × Value → H} {W : World}
theorem trod_strF {P : Program} {t : TypeId} {fuel : Nat} {cs : List Value} {x : DataW H × List MemPlace} (ht : P.underlying t = some .string) (h : DataW.trod enc P W 0 (fun _ => true) true fuel t cs = some x) :
    ∃ s, cs = [.string s] ∧ s.size ≤ maxLen := by
  cases fuel with
  | zero => simp [DataW.trod] at h
  | succ n =>
    unfold DataW.trod at h
    rw [ht] at h
    split at h <;> simp_all
theorem trod_floatF {P : Program} {t : TypeId} {k : FloatKind} {fuel : Nat} {cs : List Value} {x : DataW H × List MemPlace} (ht : P.underlying t = some (.float k)) (h : DataW.trod enc P W 0 (fun _ => true) true fuel t cs = some x) :
    ∃ b, cs = [.float k b] ∧ (Lit.float k b).wf = true := by
  cases fuel with
  | zero => simp [DataW.trod] at h
  | succ n =>
    unfold DataW.trod at h
    rw [ht] at h
    split at h <;> simp_all
def inI (z : Int) : Prop := -9223372036854775808 ≤ z ∧ z ≤ 9223372036854775807
/-- What is known of a frame that came in. -/
structure FrIn (f : Fr) (A : Option Addr) (c : Nat) (W : World) : Prop where
  rd : RdC (· < W.heap.size) W A (bvs f.bytes)
  le : f.bytes.length ≤ c
  cap : c ≤ maxLen
  who : f.who.size ≤ maxLen
  name : f.name.size ≤ maxLen
  weight : f.weight < 18446744073709551616
  kind : inI f.kind
  seq : inI f.seq
  got : inI f.got
  stream : inI f.stream
  amount : inI f.amount
  code : inI f.code
theorem FrIn.lens {f : Fr} {A : Option Addr} {c : Nat} {W : World} (h : FrIn f A c W) : f.lens := by
  have h1 := h.who
  have h2 := h.name
  have h3 := h.le
  have h4 := h.cap
  unfold maxLen at h1 h2 h4
  exact ⟨by omega, by omega, by omega⟩
theorem FrIn.fits {f : Fr} {A : Option Addr} {c : Nat} {W : World} (h : FrIn f A c W) : f.fits := by
  refine ⟨h.weight, fun x hx => ?_⟩
  rcases nine hx with k | k | k | k | k | k | k | k | k <;> subst k
  · exact h.seq.2
  · exact h.got.2
  · exact h.stream.2
  · exact h.amount.2
  · exact h.code.2
  all_goals exact (by decide : (0 : Int) ≤ 9223372036854775807)
set_option maxRecDepth 8000 in
/-- A frame, cell by cell. -/
theorem open_frame10 {fuel : Nat} {v0 v1 v2 v3 v4 v5 v6 v7 v8 v9 : Value} {x : DataW H × List MemPlace} (hf : DataW.trod enc Tryd.prog W 0 (fun _ => true) true fuel 33 [v0, v1, v2, v3, v4, v5, v6, v7, v8, v9] = some x) :
    ∃ (f : Fr) (A : Option Addr) (c : Nat), [v0, v1, v2, v3, v4, v5, v6, v7, v8, v9] = (frCs f A c).toList ∧ FrIn f A c W := by
  obtain ⟨xs, m, _, hx, _, hlen, hg⟩ := DataW.trod_struct Tryd.underlying33 hf
  have kb : Tryd.prog.cellsOf 31 = 1 := by kernel_rfl
  have ks : Tryd.prog.cellsOf 9 = 1 := by kernel_rfl
  have ki : Tryd.prog.cellsOf 3 = 1 := by kernel_rfl
  have ku : Tryd.prog.cellsOf 5 = 1 := by kernel_rfl
  have kf : Tryd.prog.cellsOf 30 = 1 := by kernel_rfl
  match xs, hlen with
  | [y0, y1, y2, y3, y4, y5, y6, y7, y8, y9], _ =>
    have g0 := hg 0 _ rfl
    have g1 := hg 1 _ rfl
    have g2 := hg 2 _ rfl
    have g3 := hg 3 _ rfl
    have g4 := hg 4 _ rfl
    have g5 := hg 5 _ rfl
    have g6 := hg 6 _ rfl
    have g7 := hg 7 _ rfl
    have g8 := hg 8 _ rfl
    have g9 := hg 9 _ rfl
    try simp at g0
    try simp at g1
    try simp at g2
    try simp at g3
    try simp at g4
    try simp at g5
    try simp at g6
    try simp at g7
    try simp at g8
    try simp at g9
    obtain ⟨z0, e0, _, w0⟩ := DataW.trod_int Tryd.underlying3 g0
    obtain ⟨z1, e1, _, w1⟩ := DataW.trod_int Tryd.underlying3 g1
    obtain ⟨z2, e2, _, w2⟩ := DataW.trod_int Tryd.underlying3 g2
    obtain ⟨z3, e3, _, w3⟩ := DataW.trod_int Tryd.underlying3 g3
    obtain ⟨z4, e4, _, w4⟩ := DataW.trod_int Tryd.underlying3 g4
    obtain ⟨z5, e5, _, w5⟩ := DataW.trod_int Tryd.underlying3 g5
    obtain ⟨s6, e6, h6⟩ := trod_strF Tryd.underlying9 g6
    obtain ⟨s7, e7, h7⟩ := trod_strF Tryd.underlying9 g7
    obtain ⟨b8, e8, h8⟩ := trod_floatF Tryd.underlying30 g8
    obtain ⟨A, n9, c, by9, rfl, rfl, a1, a2, a3, _⟩ := open_bytes Tryd.underlying31 Tryd.underlying5 ku g9
    injection e0 with e0 _
    injection e1 with e1 _
    injection e2 with e2 _
    injection e3 with e3 _
    injection e4 with e4 _
    injection e5 with e5 _
    injection e6 with e6 _
    injection e7 with e7 _
    injection e8 with e8 _
    subst e0 e1 e2 e3 e4 e5 e6 e7 e8
    exact ⟨⟨z0, z1, z2, z3, z4, z5, s6, s7, b8, by9⟩, A, c, rfl, a3, a1, a2, h6, h7, by simpa [Lit.wf] using h8, Go.bounds_i64 w0, Go.bounds_i64 w1, Go.bounds_i64 w2, Go.bounds_i64 w3, Go.bounds_i64 w4, Go.bounds_i64 w5⟩
set_option maxRecDepth 8000 in
theorem open_frame {base : Nat} {v : Value} {d : DataW H} {ps : List MemPlace} (hval : Value.okWide Tryd.prog W .any base 33 v) (h : DataW.Trod enc Tryd.prog W 0 (fun _ => true) true 33 v d ps) :
    ∃ (f : Fr) (A : Option Addr) (c : Nat), v = frV f A c ∧ FrIn f A c W := by
  obtain ⟨cs, rfl, hsz⟩ := okWide_struct Tryd.underlying33 hval
  rw [show Tryd.prog.cellsOf 33 = 10 by kernel_rfl] at hsz
  obtain ⟨fuel, hf⟩ := h
  obtain ⟨l⟩ := cs
  match l, hsz with
  | [v0, v1, v2, v3, v4, v5, v6, v7, v8, v9], _ =>
    obtain ⟨f, A, c, e, hin⟩ := open_frame10 (fuel := fuel) hf
    refine ⟨f, A, c, ?_, hin⟩
    show Value.agg (List.toArray _) = Value.agg (frCs f A c)
    rw [e]
end
end Go.Proofs.YtipgimmgjdgdeaaDoor
