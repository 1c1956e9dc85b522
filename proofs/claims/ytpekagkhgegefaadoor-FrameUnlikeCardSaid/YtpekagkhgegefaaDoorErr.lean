/- The sentinel errors as they lie in memory. -/
import Derived.Test.YtpekagkhgegefaaDoorBase
namespace Go.Proofs.YtpekagkhgegefaaDoor
open Go.RowKit

/-! ### Sentinel errors -/
/-- The variable g holds the sentinel at address a; all of it lies below block B. -/
structure ErrAt (B : Nat) (w : World) (g : Nat) (a : Addr) : Prop where
  g_lt : g < B
  a_lt : a.block < B
  cell : w.cell? ⟨g, 0, none⟩ = some (.iface 147 (.pointer (some a)))
  obj : ∃ cs t, w.heap[a.block]? = some (.cells cs t (0, 0))
theorem ErrAt.below {B : Nat} {w w' : World} {g : Nat} {a : Addr} (h : ErrAt B w g a) (hb : Below B w w') : ErrAt B w' g a :=
  ⟨h.g_lt, h.a_lt, (hb.cell (p := ⟨g, 0, none⟩) h.g_lt).trans h.cell, by
    obtain ⟨cs, t, hh⟩ := h.obj
    exact ⟨cs, t, (hb.block _ h.a_lt).trans hh⟩⟩
theorem ErrAt.more {B B' : Nat} {w : World} {g : Nat} {a : Addr} (h : ErrAt B w g a) (hb : B ≤ B') : ErrAt B' w g a :=
  ⟨Nat.lt_of_lt_of_le h.g_lt hb, Nat.lt_of_lt_of_le h.a_lt hb, h.cell, h.obj⟩
/-- An error as a value. -/
def errV (a : Addr) : Value := .iface 147 (.pointer (some a))
end Go.Proofs.YtpekagkhgegefaaDoor
