/- Layer 1 (fields) as plain Lean: what Encode, Decode, Some come to. No program. -/
import Derived.Test.YtipgimmgjdgdeaaDoorBase
namespace Go.Proofs.YtipgimmgjdgdeaaDoor
open Go.RowKit

/-! ### Sentinel errors -/
/-- The variable g holds the sentinel at address a; all of it lies below block B. -/
structure ErrAt (B : Nat) (w : World) (g : Nat) (a : Addr) : Prop where
  g_lt : g < B
  a_lt : a.block < B
  cell : w.cell? ⟨g, 0, none⟩ = some (.iface 160 (.pointer (some a)))
  obj : ∃ cs t, w.heap[a.block]? = some (.cells cs t (0, 0))
theorem ErrAt.below {B : Nat} {w w' : World} {g : Nat} {a : Addr} (h : ErrAt B w g a) (hb : Below B w w') : ErrAt B w' g a :=
  ⟨h.g_lt, h.a_lt, (hb.cell (p := ⟨g, 0, none⟩) h.g_lt).trans h.cell, by
    obtain ⟨cs, t, hh⟩ := h.obj
    exact ⟨cs, t, (hb.block _ h.a_lt).trans hh⟩⟩
theorem ErrAt.more {B B' : Nat} {w : World} {g : Nat} {a : Addr} (h : ErrAt B w g a) (hb : B ≤ B') : ErrAt B' w g a :=
  ⟨Nat.lt_of_lt_of_le h.g_lt hb, Nat.lt_of_lt_of_le h.a_lt hb, h.cell, h.obj⟩
/-- An error as a value. -/
def errV (a : Addr) : Value := .iface 160 (.pointer (some a))
end Go.Proofs.YtipgimmgjdgdeaaDoor
/- The sentinel errors as they lie in memory. -/
namespace Go.Proofs.YtipgimmgjdgdeaaDoor

/-- The errors of package api. -/
inductive Er where
  | range | short | long | tail | broken | power | frame | full | gap | name | taken | none | owner | proof | window | stream | state | busy
  deriving DecidableEq

structure Cell where
  n : Int
  f : Nat
  s : ByteArray

def Cell.zero : Cell := ⟨0, 0, ⟨#[]⟩⟩

/-- The last k bytes of u, the greatest first. -/
def be (u : Nat) : Nat → Bs
  | 0 => []
  | k + 1 => UInt8.ofNat (u / 256 ^ k) :: be u k
@[simp] theorem be_length (u k : Nat) : (be u k).length = k := by induction k <;> simp [be, *]
theorem be_take (u : Nat) : ∀ (k j : Nat), j < k → (be u k).take (k - j) = (be u k).take (k - (j + 1)) ++ [UInt8.ofNat (u / 256 ^ j)]
  | 0, j, h => by omega
  | k + 1, j, h => by
    rcases Nat.lt_or_ge j k with hlt | hge
    · have ih := be_take u k j hlt
      rw [show k + 1 - j = (k - j) + 1 from by omega, show k + 1 - (j + 1) = (k - (j + 1)) + 1 from by omega]
      simp only [be, List.take_succ_cons, List.cons_append]
      rw [ih]
    · obtain rfl : j = k := by omega
      rw [show j + 1 - j = 1 from by omega, show j + 1 - (j + 1) = 0 from by omega]
      simp [be]
def num (bs : Bs) : Nat := bs.foldl (fun u b => 256 * u + b.toNat) 0
theorem num_snoc (bs : Bs) (b : UInt8) : num (bs ++ [b]) = 256 * num bs + b.toNat := by simp [num]
theorem num_lt (bs : Bs) : num bs < 256 ^ bs.length := by
  suffices h : ∀ (bs : Bs) (u k : Nat), u < 256 ^ k → bs.foldl (fun u b => 256 * u + b.toNat) u < 256 ^ (k + bs.length) by
    have := h bs 0 0 (by simp)
    simpa [num] using this
  intro bs
  induction bs with
  | nil => intro u k h; simpa using h
  | cons b bs ih =>
    intro u k h
    have hb := b.toNat_lt
    have := ih (256 * u + b.toNat) (k + 1) (by rw [Nat.pow_succ]; omega)
    simpa [Nat.add_assoc, Nat.add_comm 1] using this
theorem num_be (u k : Nat) : num (be u k) = u % 256 ^ k := by
  suffices h : ∀ (k x : Nat), (be u k).foldl (fun u b => 256 * u + b.toNat) x = x * 256 ^ k + u % 256 ^ k by
    have := h k 0
    simpa [num] using this
  intro k
  induction k with
  | zero => intro x; simp [be, Nat.mod_one]
  | succ k ih =>
    intro x
    simp only [be, List.foldl_cons, ih]
    have h1 : (UInt8.ofNat (u / 256 ^ k)).toNat = u / 256 ^ k % 256 := by simp
    rw [h1]
    have h2 : u % 256 ^ (k + 1) = u % 256 ^ k + 256 ^ k * (u / 256 ^ k % 256) := Nat.mod_pow_succ
    rw [h2, Nat.pow_succ, Nat.add_mul, Nat.mul_comm (u / 256 ^ k % 256)]
    have h3 : 256 * x * 256 ^ k = x * (256 ^ k * 256) := by rw [Nat.mul_comm 256 x, Nat.mul_assoc, Nat.mul_comm 256]
    omega
theorem num_from : ∀ (ys : Bs) (x : Nat), ys.foldl (fun u b => 256 * u + b.toNat) x = x * 256 ^ ys.length + num ys
  | [], x => by simp [num]
  | b :: ys, x => by
    have e1 := num_from ys (256 * x + b.toNat)
    have e2 := num_from ys (256 * 0 + b.toNat)
    have e3 : num (b :: ys) = ys.foldl (fun u b => 256 * u + b.toNat) (256 * 0 + b.toNat) := rfl
    rw [e3, e2, List.foldl_cons, e1, List.length_cons, Nat.pow_succ, Nat.add_mul, Nat.add_mul]
    have h3 : 256 * x * 256 ^ ys.length = x * (256 ^ ys.length * 256) := by rw [Nat.mul_comm 256 x, Nat.mul_assoc, Nat.mul_comm 256]
    omega
theorem num_append (xs ys : Bs) : num (xs ++ ys) = num xs * 256 ^ ys.length + num ys := by
  have := num_from ys (num xs)
  unfold num at *
  rw [List.foldl_append]
  exact this
theorem be_num : ∀ (bs : Bs), be (num bs) bs.length = bs
  | [] => rfl
  | b :: bs => by
    have e : num (b :: bs) = b.toNat * 256 ^ bs.length + num bs := by
      have := num_append [b] bs
      simpa [num] using this
    have hlt := num_lt bs
    have hp : 0 < 256 ^ bs.length := Nat.pow_pos (by omega)
    simp only [List.length_cons, be]
    have h1 : num (b :: bs) / 256 ^ bs.length = b.toNat := by
      rw [e, Nat.mul_comm, Nat.mul_add_div hp, Nat.div_eq_of_lt hlt]; omega
    have h2 : ∀ (k x y : Nat), k ≤ bs.length → be (x * 256 ^ bs.length + y) k = be y k := by
      intro k
      induction k with
      | zero => intro x y _; rfl
      | succ k ih =>
        intro x y hk
        simp only [be]
        rw [ih x y (by omega)]
        congr 1
        have e2 : 256 ^ bs.length = 256 ^ k * (256 * 256 ^ (bs.length - k - 1)) := by
          rw [← Nat.pow_succ', ← Nat.pow_add]; congr 1; omega
        have hk0 : 0 < 256 ^ k := Nat.pow_pos (by omega)
        have e3 : (x * 256 ^ bs.length + y) / 256 ^ k = 256 * (x * 256 ^ (bs.length - k - 1)) + y / 256 ^ k := by
          rw [e2, show x * (256 ^ k * (256 * 256 ^ (bs.length - k - 1))) = 256 ^ k * (256 * (x * 256 ^ (bs.length - k - 1))) from by
            rw [Nat.mul_left_comm x, Nat.mul_left_comm x]]
          exact Nat.mul_add_div hk0 _ _
        rw [e3]
        apply UInt8.toNat_inj.1
        simp
    rw [h1, e, h2 bs.length b.toNat (num bs) (Nat.le_refl _), be_num bs]
    simp
theorem be_mod (u k : Nat) : be (u % 256 ^ k) k = be u k := by
  have h := be_num (be u k)
  rw [be_length, num_be] at h
  exact h

/-- A letter's number of bytes. -/
def width (l : UInt8) : Nat := if l = 98 ∨ l = 116 then 1 else if l = 104 ∨ l = 114 then 2 else if l = 119 then 4 else 8
theorem width_le (l : UInt8) : 1 ≤ width l ∧ width l ≤ 8 := by unfold width; split <;> (try split) <;> (try split) <;> omega
def isText (l : UInt8) : Bool := l == 116 || l == 114
def knownL (l : UInt8) : Bool := ([98, 104, 119, 113, 102, 116, 114] : Bs).contains l
def known (s : Bs) : Bool := s.all knownL

/-- A field's bytes. -/
def encCell (l : UInt8) (c : Cell) : Except Er Bs :=
  if l = 102 then .ok (be c.f 8)
  else if isText l = true then (if c.s.size > 256 ^ width l - 1 then .error .long else .ok (be c.s.size (width l) ++ c.s.data.toList))
  else if c.n < 0 ∨ c.n > ((256 ^ width l - 1 : Nat) : Int) then .error .range
  else .ok (be c.n.toNat (width l))
def encAll : Bs → List Cell → Except Er Bs
  | l :: ls, c :: cs => (encCell l c).bind fun a => (encAll ls cs).map (a ++ ·)
  | _, _ => .ok []
def encode (layout : Bs) (cells : List Cell) : Except Er Bs :=
  if known layout = false ∨ cells.length ≠ layout.length then .error .state else encAll layout cells

/-- The field with which bytes begin, and how many bytes it has. -/
def decCell (l : UInt8) (b : Bs) : Except Er (Cell × Nat) :=
  if b.length < width l then .error .short
  else if l = 102 then .ok (⟨0, num (b.take (width l)), ⟨#[]⟩⟩, width l)
  else if isText l = true then
    (if b.length - width l < num (b.take (width l)) then .error .short
     else .ok (⟨0, 0, ⟨((b.drop (width l)).take (num (b.take (width l)))).toArray⟩⟩, width l + num (b.take (width l))))
  else if num (b.take (width l)) > 9223372036854775807 then .error .range
  else .ok (⟨num (b.take (width l)), 0, ⟨#[]⟩⟩, width l)
def decAll : Bs → Bs → Except Er (List Cell × Bs)
  | [], b => .ok ([], b)
  | l :: ls, b => (decCell l b).bind fun (c, n) => (decAll ls (b.drop n)).map fun (cs, r) => (c :: cs, r)
def decode (layout b : Bs) : Except Er (List Cell) :=
  if known layout = false then .error .state
  else (decAll layout b).bind fun (cs, r) => if r = [] then .ok cs else .error .tail
def someAt : Bs → Bs → Nat × Bool
  | [], b => (0, b.isEmpty)
  | l :: ls, b => if knownL l = false then (0, false) else
    match decCell l b with
    | .error _ => (0, false)
    | .ok (_, n) => ((someAt ls (b.drop n)).1 + 1, (someAt ls (b.drop n)).2)
end Go.Proofs.YtipgimmgjdgdeaaDoor
