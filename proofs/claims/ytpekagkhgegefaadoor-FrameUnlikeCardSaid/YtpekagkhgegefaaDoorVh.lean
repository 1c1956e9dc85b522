/- Digest and Keyed at rows that are laid for the call. -/
import Derived.Test.YtpekagkhgegefaaDoorHu
import Derived.Stop.BytesEq
import Derived.Lib.SlBytesConst
set_option linter.unusedVariables false
set_option linter.unusedSimpArgs false
set_option linter.unnecessarySimpa false
namespace Go.Proofs.YtpekagkhgegefaaDoor
open Go.RowKit

theorem eql_bytes {t : TypeId} {n : Nat} (ht : Tryd.prog.underlying t = some (.array n 5)) (xs ys : Bs) (hx : xs.length = n) (hy : ys.length = n) (w : World) :
    (binOp .eql t (.agg (bvs xs).toArray) (.agg (bvs ys).toArray)).run Tryd.prog w = .ok (.bool (xs == ys)) w := by
  obtain ⟨i0, hi⟩ := Option.isSome_iff_exists.1 (show (Tryd.prog.info? 5).isSome = true by kernel_rfl)
  exact run_eql_bytes w t 5 n ht Tryd.underlying5 (fun w => by rw [run_sizeOf w hi]; rw [show Tryd.prog.cellsOf 5 = 1 by kernel_rfl]) xs ys hx hy
/-- A row of rows in a new block. -/
theorem rows_new {w : World} {vs : List Value} {ps : List Bs} (hV : RowsOf (· < w.heap.size) w vs ps) : RdC (· < (w.alloc (.cells vs.toArray 23)).heap.size) (w.alloc (.cells vs.toArray 23)) (some ⟨w.heap.size, 0, none⟩) vs ∧ RowsOf (· < (w.alloc (.cells vs.toArray 23)).heap.size) (w.alloc (.cells vs.toArray 23)) vs ps :=
  ⟨(RdC.new w vs.toArray 23).mono (fun k hk => by simp; omega), hV.toBelow ((Below.refl _ _).alloc (Nat.le_refl _) _) (by simp)⟩
theorem digest_new (w : World) (vs : List Value) (ps : List Bs) (n : Nat) (hn : ps.length = n) (hRo : RoundAt w) (hV : RowsOf (· < w.heap.size) w vs ps) (hk : ps.length ≤ 140737488355328) (hl : ps.flatten.length ≤ 35184372088832) :
    Calls Tryd.prog 61 #[.slice (some ⟨w.heap.size, 0, none⟩) n n] (w.alloc (.cells vs.toArray 23)) (DigestP w ps.flatten) := by
  subst hn
  have hb : Below w.heap.size w (w.alloc (.cells vs.toArray 23)) := (Below.refl _ _).alloc (Nat.le_refl _) _
  obtain ⟨h1, h2⟩ := rows_new hV
  exact (digest_any _ _ ps.length vs ps (hRo.below hb hRo.lt) h1 h2 hk hl).mono fun e w' ⟨he, hb2⟩ => ⟨he, hb.trans (hb2.mono hb.size)⟩
theorem rows_one {ok : Nat → Prop} {w : World} {A : Option Addr} {c n : Nat} {b : Bs} (hA : RdC ok w A (bvs b)) (hc : b.length ≤ c) (hn : b.length = n) : RowsOf ok w [.slice A n c] [b] := by
  subst hn
  exact RowsOf.cons (RowsOf.nil _ _) hA hc
/-- A literal row of bytes. -/
theorem lit_new (w : World) (b : Bs) : RdC (· < (w.alloc (.cells (bvs b).toArray 5)).heap.size) (w.alloc (.cells (bvs b).toArray 5)) (some ⟨w.heap.size, 0, none⟩) (bvs b) :=
  (RdC.new w (bvs b).toArray 5).mono (fun k hk => by simp; omega)
end Go.Proofs.YtpekagkhgegefaaDoor
