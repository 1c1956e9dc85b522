/- ProofTells: what the calls answer, alike for bytes and for errors. -/
import Derived.Test.YtnnokbipcenbgaaDoorPm
import Derived.Test.YtnnokbipcenbgaaDoorRw
import Derived.Test.YtnnokbipcenbgaaDoorNv
import Derived.Test.YtnnokbipcenbgaaDoorNm
set_option linter.unusedVariables false
set_option linter.unusedSimpArgs false
set_option linter.unnecessarySimpa false
namespace Go.Proofs.YtnnokbipcenbgaaDoor
open Go.RowKit

def resO {α : Type} : Except Er α → Option Er
  | .ok _ => none
  | .error e => some e
def resD : Except Er Bs → Bs
  | .ok d => d
  | .error _ => []
def resB {α : Type} : Except Er α → Bool
  | .ok _ => true
  | .error _ => false
def UniP (w : World) (es : Er → Addr) (r : Except Er Bs) (e : Ending) (w' : World) : Prop := ∃ A c, e = .returned (.tuple #[.slice A (resD r).length c, codeV es (resO r)]) ∧ RdC (· < w'.heap.size) w' A (bvs (resD r)) ∧ Below w.heap.size w w'
def URefP (w : World) (r : Except Er Bs) (e : Ending) (w' : World) : Prop := ∃ A c, e = .returned (.tuple #[.slice A (resD r).length c, .bool (resB r)]) ∧ RdC (· < w'.heap.size) w' A (bvs (resD r)) ∧ Below w.heap.size w w'
def UIntP (w : World) (es : Er → Addr) (r : Except Er Nat) (e : Ending) (w' : World) : Prop := e = .returned (.tuple #[.int .i64 ((openV r : Nat) : Int), codeV es (resO r)]) ∧ Below w.heap.size w w'
theorem uni_arr {n : Nat} {w : World} {es : Er → Addr} {r : Except Er Bs} {e : Ending} {w' : World} (h : OrErr w es r (IsArr n) e w') (hn : n ≤ 32) : UniP w es r e w' := by
  obtain ⟨hb, h⟩ := h
  cases r with
  | ok d =>
    obtain ⟨v, rfl, hq⟩ := h
    obtain ⟨g, D, rfl, hg, ha, hD, rfl⟩ := hq
    refine ⟨some ⟨g, 0, none⟩, n, ?_, ?_, hb⟩
    · show Ending.returned (.tuple #[.slice (some ⟨g, 0, none⟩) n n, .nilIface]) = .returned (.tuple #[.slice (some ⟨g, 0, none⟩) (D.take n).length n, .nilIface])
      rw [List.length_take, hD, Nat.min_eq_left hn]
    · show RdC _ _ _ (bvs (D.take n))
      rw [bvs_take]
      exact (ha.reads.take n).mono fun k hk => by subst hk; exact ha.lt
  | error er => exact ⟨none, 0, h, RdC.nil _ _ _, hb⟩
theorem uni_row {w : World} {es : Er → Addr} {r : Except Er Bs} {e : Ending} {w' : World} (h : OrErr w es r IsRow e w') : UniP w es r e w' := by
  obtain ⟨hb, h⟩ := h
  cases r with
  | ok d =>
    obtain ⟨v, rfl, hq⟩ := h
    obtain ⟨A, c, rfl, _, _⟩ := own_slice hq
    exact ⟨A, c, rfl, (RdC.of_own hq).mono fun k hk => hk.2, hb⟩
  | error er => exact ⟨none, 0, h, RdC.nil _ _ _, hb⟩
theorem uni_ref {w : World} {r : Except Er Bs} {e : Ending} {w' : World} (h : RTold w r e w') : URefP w r e w' := by
  obtain ⟨hb, h⟩ := h
  cases r with
  | ok d =>
    obtain ⟨A, c, rfl, hc, hr⟩ := h
    exact ⟨A, c, rfl, hr.mono fun k hk => hk.2, hb⟩
  | error er => exact ⟨none, 0, h, RdC.nil _ _ _, hb⟩
theorem uni_int {w : World} {es : Er → Addr} {r : Except Er Nat} {e : Ending} {w' : World} (h : OrErrI w es r e w') : UIntP w es r e w' := by
  obtain ⟨hb, h⟩ := h
  cases r with
  | ok u => exact ⟨h, hb⟩
  | error er => exact ⟨h, hb⟩
theorem openE_code (r : Except Er Nat) : openE r = code (resO r) := by cases r <;> rfl
theorem rightR_res (key nonce who pr : Bs) : rightR key nonce who pr = (resB (proveR key nonce who) && (resD (proveR key nonce who) == pr)) := by
  unfold rightR
  cases proveR key nonce who with
  | ok d => simp only [resB, resD, Bool.true_and]; rw [Bool.eq_iff_iff]; simp
  | error e => rfl
theorem nonceR_er {key : Bs} {n : Int} {er : Er} (h : nonceR key n = .error er) : er = .range := by
  unfold nonceR at h
  split at h
  · cases h
  · cases h; rfl
theorem ticketR_er {key who : Bs} {n : Int} {er : Er} (h : ticketR key who n = .error er) : er = .range := by
  unfold ticketR at h
  split at h
  · cases h
  · cases h; rfl
theorem res_cases {α : Type} (r : Except Er α) (h : ∀ er, r = .error er → er = .range) : (resO r = none ∧ resB r = true) ∨ (resO r = some .range ∧ resB r = false) := by
  cases r with
  | ok a => exact .inl ⟨rfl, rfl⟩
  | error e => exact .inr ⟨by rw [h e rfl]; rfl, rfl⟩
/-- What three copies are known by. -/
structure Got3 (w W : World) (x y z : Bs) (A1 : Option Addr) (c1 : Nat) (A2 : Option Addr) (c2 : Nat) (A3 : Option Addr) (c3 : Nat) : Prop where
  b : Below w.heap.size w W
  k1 : x.length + 6 ≤ c1
  k2 : y.length + 6 ≤ c2
  k3 : z.length + 6 ≤ c3
  r1 : RdC (· < W.heap.size) W A1 (bvs (x ++ marks))
  r2 : RdC (· < W.heap.size) W A2 (bvs (y ++ marks))
  r3 : RdC (· < W.heap.size) W A3 (bvs (z ++ marks))
theorem cut7 {F G : World → Option Addr → Nat → Option Addr → Nat → Option Addr → Nat → Prop} {R : Prop} (h1 : (∀ W A1 c1 A2 c2 A3 c3, F W A1 c1 A2 c2 A3 c3 → G W A1 c1 A2 c2 A3 c3) → R) (h2 : ∀ W A1 c1 A2 c2 A3 c3, F W A1 c1 A2 c2 A3 c3 → G W A1 c1 A2 c2 A3 c3) : R := h1 h2
theorem OrEnv.below {w w' : World} {es : Er → Addr} (h : E18 w.heap.size w es) (hr : RoundAt w) (hb : Below w.heap.size w w') : E18 w'.heap.size w' es ∧ RoundAt w' := ⟨h.step hb, hr.below hb hr.lt⟩
end Go.Proofs.YtnnokbipcenbgaaDoor
