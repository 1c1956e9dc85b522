/- Layer 5 (frame) as plain Lean: frames, their form, their bytes. No program. -/
import Derived.Test.YtpekagkhgegefaaDoorVp
import Derived.Test.YtpekagkhgegefaaDoorHs
set_option linter.unusedVariables false
set_option linter.unusedSimpArgs false
set_option linter.unnecessarySimpa false
namespace Go.Proofs.YtpekagkhgegefaaDoor

def noS : ByteArray := ⟨#[]⟩
structure Fr where
  kind : Int
  seq : Int
  got : Int
  stream : Int
  amount : Int
  code : Int
  who : ByteArray
  name : ByteArray
  weight : Nat
  bytes : Bs
  deriving DecidableEq
def Fr.of (k : Int) : Fr := ⟨k, 0, 0, 0, 0, 0, noS, noS, 0, []⟩
/-- A kind's fields: 0 seq, 1 got, 2 stream, 3 amount, 4 code, 5 who, 6 name, 7 weight, 8 raw. -/
def shapeF (k : Int) : List Nat :=
  if k = 1 then [5, 1, 8] else if k = 2 ∨ k = 3 then [8] else if k = 4 then [1, 8] else if k = 5 then [4] else if k = 6 then [1]
  else if k = 7 then [0, 2, 6] else if k = 8 ∨ k = 11 then [0, 2] else if k = 9 then [0, 2, 8] else if k = 10 then [0, 2, 3] else if k = 12 then [0, 2, 4]
  else if k = 13 then [0, 6, 7] else if k = 14 then [0, 6] else if k = 15 ∨ k = 16 then [0, 5, 6] else if k = 17 then [0, 4, 6] else []
def letterF (x : Nat) : UInt8 := ([113, 113, 119, 119, 98, 116, 116, 102, 114] : Bs).getD x 0
def layoutF (k : Int) : Bs := (shapeF k).map letterF
def cellF (f : Fr) : Nat → Cell
  | 0 => ⟨f.seq, 0, noS⟩
  | 1 => ⟨f.got, 0, noS⟩
  | 2 => ⟨f.stream, 0, noS⟩
  | 3 => ⟨f.amount, 0, noS⟩
  | 4 => ⟨f.code, 0, noS⟩
  | 5 => ⟨0, 0, f.who⟩
  | 6 => ⟨0, 0, f.name⟩
  | 7 => ⟨0, f.weight, noS⟩
  | _ => ⟨0, 0, ⟨f.bytes.toArray⟩⟩
def setF (o : Fr) (x : Nat) (c : Cell) : Fr := match x with
  | 0 => { o with seq := c.n }
  | 1 => { o with got := c.n }
  | 2 => { o with stream := c.n }
  | 3 => { o with amount := c.n }
  | 4 => { o with code := c.n }
  | 5 => { o with who := c.s }
  | 6 => { o with name := c.s }
  | 7 => { o with weight := c.f }
  | 8 => { o with bytes := c.s.data.toList }
  | _ => o
def withinF (n lo hi : Int) : Bool := decide (lo ≤ n ∧ n ≤ hi)
def bytesF (k n : Int) : Bool := if k = 1 then decide (n ≤ 32) else if k = 3 then decide (n = 32) else if k = 9 then withinF n 1 512 else withinF n 1 32
def goodF (f : Fr) : Nat → Bool
  | 0 => withinF f.seq 1 1099511627776
  | 1 => withinF f.got 0 1099511627776
  | 2 => withinF f.stream 1 2147483647
  | 3 => withinF f.amount 1 2147483647
  | 4 => withinF f.code 0 13
  | 5 => withinF f.who.size 1 16
  | 6 => withinF f.name.size 1 63
  | 8 => bytesF f.kind f.bytes.length
  | _ => true
/-- The fields that a list names, and no others. -/
def onlyF (f : Fr) (l : List Nat) : Fr := l.foldl (fun o x => setF o x (cellF f x)) (Fr.of f.kind)
def checkF (f : Fr) : Bool := !(shapeF f.kind).isEmpty && ((shapeF f.kind).all (goodF f) && decide (onlyF f (shapeF f.kind) = f))
def cellsF (f : Fr) : List Cell := (shapeF f.kind).map (cellF f)
def bodyF (f : Fr) : Bs := match encAll (98 :: layoutF f.kind) (⟨f.kind, 0, noS⟩ :: cellsF f) with | .ok b => b | .error _ => []
def frontF (f : Fr) : Bs := be (bodyF f).length 2 ++ bodyF f
def putF (f : Fr) : Bs := frontF f ++ (sha (frontF f)).take 4
def setAll (o : Fr) : List Nat → List Cell → Fr
  | x :: xs, c :: cs => setAll (setF o x c) xs cs
  | _, _ => o
def getF (b : Bs) : Option Fr :=
  if b.length < 7 ∨ b.length > 1024 then none
  else if (sha (b.take (b.length - 4))).take 4 ≠ b.drop (b.length - 4) ∨ num (b.take 2) ≠ b.length - 6 then none
  else match decode (layoutF (b.getD 2 0).toNat) ((b.take (b.length - 4)).drop 3) with
    | .error _ => none
    | .ok cs => if checkF (setAll (Fr.of (b.getD 2 0).toNat) (shapeF (b.getD 2 0).toNat) cs) = true then some (setAll (Fr.of (b.getD 2 0).toNat) (shapeF (b.getD 2 0).toNat) cs) else none
def rowF (k : Int) : Bool := withinF k 7 17

/-! ### Kinds -/
theorem shape_out {k : Int} (h : ¬ (1 ≤ k ∧ k ≤ 17)) : shapeF k = [] := by
  unfold shapeF
  repeat rw [if_neg (by omega)]
theorem shape_kind {k : Int} (h : shapeF k ≠ []) : 1 ≤ k ∧ k ≤ 17 := by
  by_cases hk : 1 ≤ k ∧ k ≤ 17
  · exact hk
  · exact absurd (shape_out hk) h
theorem kind_cases {k : Int} (h : 1 ≤ k ∧ k ≤ 17) : k = 1 ∨ k = 2 ∨ k = 3 ∨ k = 4 ∨ k = 5 ∨ k = 6 ∨ k = 7 ∨ k = 8 ∨ k = 9 ∨ k = 10 ∨ k = 11 ∨ k = 12 ∨ k = 13 ∨ k = 14 ∨ k = 15 ∨ k = 16 ∨ k = 17 := by omega
theorem shape_lt (k : Int) : ∀ x ∈ shapeF k, x < 9 := by
  by_cases hk : 1 ≤ k ∧ k ≤ 17
  · rcases kind_cases hk with h | h | h | h | h | h | h | h | h | h | h | h | h | h | h | h | h <;> subst h <;> decide
  · rw [shape_out hk]
    simp
theorem noS_toList : noS.data.toList = [] := rfl
theorem noS_size : noS.size = 0 := rfl
theorem toArray_data (b : Bs) : (⟨b.toArray⟩ : ByteArray).data.toList = b := by simp
theorem toArray_size (b : Bs) : (⟨b.toArray⟩ : ByteArray).size = b.length := by simp [ByteArray.size]
/-- What a field that isn't looked at holds. -/
def zeroAt (f : Fr) : Nat → Prop
  | 0 => f.seq = 0
  | 1 => f.got = 0
  | 2 => f.stream = 0
  | 3 => f.amount = 0
  | 4 => f.code = 0
  | 5 => f.who = noS
  | 6 => f.name = noS
  | 7 => f.weight = 0
  | _ => f.bytes = []
theorem only_iff (f : Fr) : onlyF f (shapeF f.kind) = f ↔ ∀ x, x < 9 → x ∉ shapeF f.kind → zeroAt f x := by
  obtain ⟨k, a, b, c, d, e, s, t, u, v⟩ := f
  simp only
  have key : (∀ x, x < 9 → x ∉ shapeF k → zeroAt ⟨k, a, b, c, d, e, s, t, u, v⟩ x) ↔
      (0 ∉ shapeF k → a = 0) ∧ (1 ∉ shapeF k → b = 0) ∧ (2 ∉ shapeF k → c = 0) ∧ (3 ∉ shapeF k → d = 0) ∧ (4 ∉ shapeF k → e = 0) ∧ (5 ∉ shapeF k → s = noS) ∧ (6 ∉ shapeF k → t = noS) ∧ (7 ∉ shapeF k → u = 0) ∧ (8 ∉ shapeF k → v = []) := by
    constructor
    · intro h
      exact ⟨h 0 (by omega), h 1 (by omega), h 2 (by omega), h 3 (by omega), h 4 (by omega), h 5 (by omega), h 6 (by omega), h 7 (by omega), h 8 (by omega)⟩
    · rintro ⟨h0, h1, h2, h3, h4, h5, h6, h7, h8⟩ x hx
      match x, hx with
      | 0, _ => exact h0
      | 1, _ => exact h1
      | 2, _ => exact h2
      | 3, _ => exact h3
      | 4, _ => exact h4
      | 5, _ => exact h5
      | 6, _ => exact h6
      | 7, _ => exact h7
      | 8, _ => exact h8
  rw [key]
  clear key
  by_cases hk : 1 ≤ k ∧ k ≤ 17
  · rcases kind_cases hk with h | h | h | h | h | h | h | h | h | h | h | h | h | h | h | h | h <;> subst h <;>
      simp [shapeF, onlyF, setF, cellF, Fr.of, eq_comm]
  · rw [shape_out hk]
    simp [onlyF, setF, cellF, Fr.of, eq_comm]
theorem check_iff (f : Fr) : checkF f = true ↔ shapeF f.kind ≠ [] ∧ (∀ x ∈ shapeF f.kind, goodF f x = true) ∧ ∀ x, x < 9 → x ∉ shapeF f.kind → zeroAt f x := by
  unfold checkF
  rw [Bool.and_eq_true, Bool.and_eq_true, decide_eq_true_eq, only_iff, List.all_eq_true]
  simp
end Go.Proofs.YtpekagkhgegefaaDoor
