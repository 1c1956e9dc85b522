/- Digest and Keyed at rows that are laid for the call. -/
import Derived.Test.YtnnokbipcenbgaaDoorHy
import Derived.Stop.BytesEq
import Derived.Lib.SlBytesConst
set_option linter.unusedVariables false
set_option linter.unusedSimpArgs false
set_option linter.unnecessarySimpa false
namespace Go.Proofs.YtnnokbipcenbgaaDoor
open Go.RowKit

theorem eql_bytes {t : TypeId} {n : Nat} (ht : Tryd.prog.underlying t = some (.array n 5)) (xs ys : Bs) (hx : xs.length = n) (hy : ys.length = n) (w : World) :
    (binOp .eql t (.agg (bvs xs).toArray) (.agg (bvs ys).toArray)).run Tryd.prog w = .ok (.bool (xs == ys)) w := by
  obtain ⟨i0, hi⟩ := Option.isSome_iff_exists.1 (show (Tryd.prog.info? 5).isSome = true by kernel_rfl)
  exact run_eql_bytes w t 5 n ht Tryd.underlying5 (fun w => by rw [run_sizeOf w hi]; rw [show Tryd.prog.cellsOf 5 = 1 by kernel_rfl]) xs ys hx hy
/-- A row of rows in a new block. -/
theorem rows_new {w : World} {vs : List Value} {ps : List Bs} (hV : RowsOf (· < w.heap.size) w vs ps) : RdC (· < (w.alloc (.cells vs.toArray 22)).heap.size) (w.alloc (.cells vs.toArray 22)) (some ⟨w.heap.size, 0, none⟩) vs ∧ RowsOf (· < (w.alloc (.cells vs.toArray 22)).heap.size) (w.alloc (.cells vs.toArray 22)) vs ps :=
  ⟨(RdC.new w vs.toArray 22).mono (fun k hk => by simp; omega), hV.toBelow ((Below.refl _ _).alloc (Nat.le_refl _) _) (by simp)⟩
theorem digest_new (w : World) (vs : List Value) (ps : List Bs) (n : Nat) (hn : ps.length = n) (hRo : RoundAt w) (hV : RowsOf (· < w.heap.size) w vs ps) (hk : ps.length ≤ 140737488355328) (hl : ps.flatten.length ≤ 35184372088832) :
    Calls Tryd.prog 50 #[.slice (some ⟨w.heap.size, 0, none⟩) n n] (w.alloc (.cells vs.toArray 22)) (DigestP w ps.flatten) := by
  subst hn
  have hb : Below w.heap.size w (w.alloc (.cells vs.toArray 22)) := (Below.refl _ _).alloc (Nat.le_refl _) _
  obtain ⟨h1, h2⟩ := rows_new hV
  exact (digest_any _ _ ps.length vs ps (hRo.below hb hRo.lt) h1 h2 hk hl).mono fun e w' ⟨he, hb2⟩ => ⟨he, hb.trans (hb2.mono hb.size)⟩
theorem keyed_new (w : World) (K : Option Addr) (kc : Nat) (key : Bs) (vs : List Value) (ps : List Bs) (n m : Nat) (hn : ps.length = n) (hm : key.length = m) (hRo : RoundAt w) (hK : RdC (· < w.heap.size) w K (bvs key)) (hkc : key.length ≤ kc)
    (hV : RowsOf (· < w.heap.size) w vs ps) (hk : ps.length ≤ 1099511627000) (hl : ps.flatten.length ≤ 1099511627776) (hkl : key.length ≤ 1099511627776) :
    Calls Tryd.prog 44 #[.slice K m kc, .slice (some ⟨w.heap.size, 0, none⟩) n n] (w.alloc (.cells vs.toArray 22)) (KeyedP w key ps.flatten) := by
  subst hn hm
  have hb : Below w.heap.size w (w.alloc (.cells vs.toArray 22)) := (Below.refl _ _).alloc (Nat.le_refl _) _
  obtain ⟨h1, h2⟩ := rows_new hV
  exact (keyed_any _ K kc key _ ps.length vs ps (hRo.below hb hRo.lt) (hK.toBelow hb hb.size) hkc h1 h2 (Nat.le_refl _) hk hl hkl).mono fun e w' ⟨he, hb2⟩ => ⟨he, hb.trans (hb2.mono hb.size)⟩
/-- .. at one row. -/
theorem rows_one {ok : Nat → Prop} {w : World} {A : Option Addr} {c n : Nat} {b : Bs} (hA : RdC ok w A (bvs b)) (hc : b.length ≤ c) (hn : b.length = n) : RowsOf ok w [.slice A n c] [b] := by
  subst hn
  exact RowsOf.cons (RowsOf.nil _ _) hA hc
/-- A literal row of bytes. -/
theorem lit_new (w : World) (b : Bs) : RdC (· < (w.alloc (.cells (bvs b).toArray 5)).heap.size) (w.alloc (.cells (bvs b).toArray 5)) (some ⟨w.heap.size, 0, none⟩) (bvs b) :=
  (RdC.new w (bvs b).toArray 5).mono (fun k hk => by simp; omega)
end Go.Proofs.YtnnokbipcenbgaaDoor
