/- Words on rows that are read, small laws of bytes: what package hash and its callers share. -/
import Derived.Test.YtipgimmgjdgdeaaDoorHd
import Derived.Laws.Cover3
set_option linter.unusedVariables false
set_option linter.unusedSimpArgs false
set_option linter.unnecessarySimpa false
namespace Go.Proofs.YtipgimmgjdgdeaaDoor
open Go.RowKit

theorem RdC.toBelow {B : Nat} {w w' : World} {A : Option Addr} {cs : List Value} (h : RdC (· < B) w A cs) (hb : Below B w w') (hB : B ≤ w'.heap.size) : RdC (· < w'.heap.size) w' A cs :=
  (h.below hb).mono fun _ hk => Nat.lt_of_lt_of_le hk hB
theorem RowsOf.toBelow {B : Nat} {w w' : World} {vs : List Value} {ps : List Bs} (h : RowsOf (· < B) w vs ps) (hb : Below B w w') (hB : B ≤ w'.heap.size) : RowsOf (· < w'.heap.size) w' vs ps :=
  (h.below hb).mono fun _ hk => Nat.lt_of_lt_of_le hk hB
theorem or8 (a b : Nat) (ha : a < 256) (hb : b < 256) : bits .or .u8 (a : Int) (b : Int) = ((a ||| b : Nat) : Int) := by
  show IntKind.u8.wrap ((BitVec.ofInt 8 (a : Int) ||| BitVec.ofInt 8 (b : Int)).toNat : Int) = _
  rw [BitVec.toNat_or, BitVec.ofInt_natCast, BitVec.ofInt_natCast, BitVec.toNat_ofNat, BitVec.toNat_ofNat, Nat.mod_eq_of_lt (by omega), Nat.mod_eq_of_lt (by omega)]
  have := Nat.or_lt_two_pow (n := 8) (by omega : a < 2 ^ 8) (by omega : b < 2 ^ 8)
  exact IntWalk.u8_in _ (by omega)
theorem xor8 (a b : Nat) (ha : a < 256) (hb : b < 256) : bits .xor .u8 (a : Int) (b : Int) = ((a ^^^ b : Nat) : Int) := by
  show IntKind.u8.wrap ((BitVec.ofInt 8 (a : Int) ^^^ BitVec.ofInt 8 (b : Int)).toNat : Int) = _
  rw [BitVec.toNat_xor, BitVec.ofInt_natCast, BitVec.ofInt_natCast, BitVec.toNat_ofNat, BitVec.toNat_ofNat, Nat.mod_eq_of_lt (by omega), Nat.mod_eq_of_lt (by omega)]
  have := Nat.xor_lt_two_pow (n := 8) (by omega : a < 2 ^ 8) (by omega : b < 2 ^ 8)
  exact IntWalk.u8_in _ (by omega)
theorem and8 (a b : Nat) (ha : a < 256) (hb : b < 256) : bits .and .u8 (a : Int) (b : Int) = ((a &&& b : Nat) : Int) := by
  show IntKind.u8.wrap ((BitVec.ofInt 8 (a : Int) &&& BitVec.ofInt 8 (b : Int)).toNat : Int) = _
  rw [BitVec.toNat_and, BitVec.ofInt_natCast, BitVec.ofInt_natCast, BitVec.toNat_ofNat, BitVec.toNat_ofNat, Nat.mod_eq_of_lt (by omega), Nat.mod_eq_of_lt (by omega)]
  have := Nat.and_lt_two_pow (n := 8) a (by omega : b < 2 ^ 8)
  exact IntWalk.u8_in _ (by omega)
theorem or_zero (a b : Nat) : a ||| b = 0 ↔ a = 0 ∧ b = 0 := by
  constructor
  · intro h
    have h1 : a ≤ a ||| b := Nat.left_le_or
    have h2 : b ≤ a ||| b := Nat.right_le_or
    omega
  · rintro ⟨rfl, rfl⟩; rfl
theorem xor_zero (a b : Nat) : a ^^^ b = 0 ↔ a = b := by
  constructor
  · intro h
    have : (a ^^^ b) ^^^ b = 0 ^^^ b := by rw [h]
    rwa [Nat.xor_assoc, Nat.xor_self, Nat.xor_zero, Nat.zero_xor] at this
  · rintro rfl; exact Nat.xor_self _
theorem RdC.byte {ok : Nat → Prop} {w : World} {A : Option Addr} {b : Bs} (h : RdC ok w A (bvs b)) (k : Nat) (hk : k < b.length) :
    ∃ ad, A = some ad ∧ ok ad.block ∧ w.cell? (ad.add k) = some (.int .u8 (((b.getD k 0).toNat : Nat) : Int)) := by
  obtain ⟨ad, e, hb, hc⟩ := h (by intro e; have : b = [] := List.map_eq_nil_iff.1 e; subst this; simp at hk)
  exact ⟨ad, e, hb, hc k _ (by simp [bvs, bv, hk])⟩
theorem RdC.drewN {ok : Nat → Prop} {w : World} {A : Option Addr} {cs : List Value} (h : RdC ok w A cs) (n : Nat) : RdC ok (w.drewN n) A cs := h
def OkPost (w : World) (e : Ending) (w' : World) : Prop := e = .returned (.bool true) ∧ Below w.heap.size w w'
theorem bytes_at {ok : Nat → Prop} {w : World} {A : Option Addr} {b : Bs} (h : RdC ok w A (bvs b)) (k : Nat) (hk : k < b.length) :
    ∃ ad, A = some ad ∧ ok ad.block ∧ w.cell? (ad.add k) = some (.int .u8 b[k].toNat) := by
  obtain ⟨ad, e, hb, hc⟩ := h (by intro e; have : b = [] := List.map_eq_nil_iff.1 e; subst this; simp at hk)
  exact ⟨ad, e, hb, hc k _ (bvs_get b k hk)⟩
theorem RdC.dropIf {ok : Nat → Prop} {w : World} {A : Option Addr} {r : Bs} (h : RdC ok w A (bvs r)) (c k : Nat) (hrc : r.length ≤ c) : RdC ok w (if c = k then A else Option.map (fun x => x.add k) A) (bvs (r.drop k)) := by
  have := h.drop k (decide (c = k)) (fun e => by simp at e; simp; omega)
  rw [bvs_drop]
  simpa using this
theorem RdC.bytesFront {ok : Nat → Prop} {w : World} {A : Option Addr} {a b : Bs} (h : RdC ok w A (bvs (a ++ b))) : RdC ok w A (bvs a) := by
  have := h.take a.length
  simpa [bvs, List.map_append] using this
theorem below_on {w w1 w2 : World} (h : Below w.heap.size w w1) (k : Below w1.heap.size w1 w2) : Below w.heap.size w w2 := h.trans (k.mono h.size)
theorem keyed_len (key b : Bs) : (keyed key b).length = 32 := by unfold keyed; exact sha_length _
end Go.Proofs.YtipgimmgjdgdeaaDoor
