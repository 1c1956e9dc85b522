/- Walks of the reference's words (layer 2): wide, atMost, root, primes, Words, New. -/
import Derived.Test.YtpekagkhgegefaaDoorHs
import Derived.Test.YtpekagkhgegefaaDoorHw
set_option linter.unusedVariables false
set_option linter.unusedSimpArgs false
set_option linter.unnecessarySimpa false
namespace Go.Proofs.YtpekagkhgegefaaDoor

def llN (a b : Nat) : Nat := ((a &&& 4294967295) * (b &&& 4294967295)) % 18446744073709551616
def lhN (a b : Nat) : Nat := ((a &&& 4294967295) * (b >>> 32)) % 18446744073709551616
def hlN (a b : Nat) : Nat := ((a >>> 32) * (b &&& 4294967295)) % 18446744073709551616
def hhN (a b : Nat) : Nat := ((a >>> 32) * (b >>> 32)) % 18446744073709551616
def midN (a b : Nat) : Nat := (((llN a b >>> 32) + (lhN a b &&& 4294967295)) % 18446744073709551616 + (hlN a b &&& 4294967295)) % 18446744073709551616
def wideHi (a b : Nat) : Nat := (((hhN a b + (lhN a b >>> 32)) % 18446744073709551616 + (hlN a b >>> 32)) % 18446744073709551616 + (midN a b >>> 32)) % 18446744073709551616
def wideLo (a b : Nat) : Nat := ((midN a b * 4294967296) % 18446744073709551616) ||| (llN a b &&& 4294967295)
def topN (r : Nat) : Nat := (wideLo (wideHi r r) r + wideHi (wideLo r r) r) % 18446744073709551616
def atMost2 (r p : Nat) : Bool := decide (wideHi r r < p) || (decide (wideHi r r = p) && decide (wideLo r r = 0))
def atMost3 (r p : Nat) : Bool := if topN r < wideLo (wideHi r r) r then false else decide (topN r < (p * 4294967296) % 18446744073709551616) || (decide (topN r = (p * 4294967296) % 18446744073709551616) && decide (wideLo (wideLo r r) r = 0))
def atMostN (r p k : Nat) : Bool := if k = 2 then atMost2 r p else atMost3 r p
def rootTo (p k : Nat) : Nat → Nat
  | 0 => 0
  | n + 1 => if atMostN (rootTo p k n ||| 2 ^ (36 - n)) p k then rootTo p k n ||| 2 ^ (36 - n) else rootTo p k n
def rootN (p k : Nat) : Nat := rootTo p k 37 % 4294967296
def isPrimeTo (p : Nat) (qs : List Nat) : Bool := qs.all fun q => decide (p % q ≠ 0)
def primesTo : Nat → List Nat
  | 0 => []
  | n + 1 => if isPrimeTo (n + 2) (primesTo n) then primesTo n ++ [n + 2] else primesTo n
/-- How many numbers are looked at for n primes. -/
def primeEnd (n : Nat) : Nat := if n = 8 then 18 else 310
theorem rootTo_lt (p k : Nat) : ∀ n, n ≤ 37 → rootTo p k n < 137438953472
  | 0, _ => by unfold rootTo; omega
  | n + 1, h => by
    have ih := rootTo_lt p k n (by omega)
    have h2 : 2 ^ (36 - n) < 2 ^ 37 := Nat.pow_lt_pow_right (by omega) (by omega)
    have := Nat.or_lt_two_pow (n := 37) (x := rootTo p k n) (y := 2 ^ (36 - n)) (by omega) h2
    unfold rootTo
    split <;> omega
set_option maxRecDepth 100000
theorem primes8 : (primesTo 18).length = 8 := by decide +kernel
theorem primes64 : (primesTo 310).length = 64 := by decide +kernel
theorem primesTo_mono : ∀ (n m : Nat), n ≤ m → (primesTo n).length ≤ (primesTo m).length
  | n, 0, h => by
    obtain rfl : n = 0 := by omega
    exact Nat.le_refl _
  | n, m + 1, h => by
    rcases Nat.eq_or_lt_of_le h with rfl | h
    · exact Nat.le_refl _
    · refine Nat.le_trans (primesTo_mono n m (by omega)) ?_
      conv => rhs; unfold primesTo
      split
      · rw [List.length_append]; omega
      · exact Nat.le_refl _
theorem primes8' : (primesTo 17).length = 7 := by decide +kernel
theorem primes64' : (primesTo 309).length = 63 := by decide +kernel
theorem primes_few (n k : Nat) (hn : n = 8 ∨ n = 64) (hk : k < primeEnd n) : (primesTo k).length < n := by
  rcases hn with rfl | rfl
  · have := primesTo_mono k 17 (by unfold primeEnd at hk; simp at hk; omega)
    rw [primes8'] at this
    omega
  · have := primesTo_mono k 309 (by unfold primeEnd at hk; simp at hk; omega)
    rw [primes64'] at this
    omega
theorem primes_end (n : Nat) (hn : n = 8 ∨ n = 64) : (primesTo (primeEnd n)).length = n := by
  rcases hn with rfl | rfl
  · exact primes8
  · exact primes64
theorem primesTo_pos : ∀ (n q : Nat), q ∈ primesTo n → 2 ≤ q ∧ q < n + 2
  | 0, q, h => by simp [primesTo] at h
  | n + 1, q, h => by
    unfold primesTo at h
    split at h
    · rcases List.mem_append.1 h with h | h
      · have := primesTo_pos n q h; omega
      · have : q = n + 2 := by simpa using h
        omega
    · have := primesTo_pos n q h; omega
theorem first_roots : (primesTo (primeEnd 8)).map (fun p => rootN p 2) = firstWords := by decide +kernel
theorem round_roots : (primesTo (primeEnd 64)).map (fun p => rootN p 3) = roundWords := by decide +kernel
end Go.Proofs.YtpekagkhgegefaaDoor
/- The reference's words (layer 2) as plain Lean: primes, roots, out of 64-bit arithmetic. No program. -/
set_option linter.unusedVariables false
set_option linter.unusedSimpArgs false
set_option linter.unnecessarySimpa false
namespace Go.Proofs.YtpekagkhgegefaaDoor
open Go.RowKit

theorem h64 (n : Nat) (hn : n < 18446744073709551616) : (BitVec.ofInt 64 (n : Int)).toNat = n := by
  rw [BitVec.ofInt_natCast, BitVec.toNat_ofNat]; exact Nat.mod_eq_of_lt (by omega)
theorem and64 (a b : Nat) (ha : a < 18446744073709551616) (hb : b < 18446744073709551616) : bits .and .u64 (a : Int) (b : Int) = ((a &&& b : Nat) : Int) := by
  show IntKind.u64.wrap ((BitVec.ofInt 64 (a : Int) &&& BitVec.ofInt 64 (b : Int)).toNat : Int) = _
  rw [BitVec.toNat_and, h64 a ha, h64 b hb]
  have := Nat.and_lt_two_pow (n := 64) a (by omega : b < 2 ^ 64)
  exact IntWalk.u64_in _ (by omega)
theorem or64 (a b : Nat) (ha : a < 18446744073709551616) (hb : b < 18446744073709551616) : bits .or .u64 (a : Int) (b : Int) = ((a ||| b : Nat) : Int) := by
  show IntKind.u64.wrap ((BitVec.ofInt 64 (a : Int) ||| BitVec.ofInt 64 (b : Int)).toNat : Int) = _
  rw [BitVec.toNat_or, h64 a ha, h64 b hb]
  have := Nat.or_lt_two_pow (n := 64) (by omega : a < 2 ^ 64) (by omega : b < 2 ^ 64)
  exact IntWalk.u64_in _ (by omega)
theorem u64_cast (n : Nat) : IntKind.u64.wrap (n : Int) = ((n % 18446744073709551616 : Nat) : Int) := by
  rw [IntKind.wrap_u64]; omega
theorem and64_lit (n : Nat) (h : n < 18446744073709551616) : bits .and .u64 (n : Int) 4294967295 = ((n &&& 4294967295 : Nat) : Int) := and64 n 4294967295 h (by omega)
theorem and64_mod (n : Nat) : bits .and .u64 ((n % 18446744073709551616 : Nat) : Int) 4294967295 = ((n % 18446744073709551616 &&& 4294967295 : Nat) : Int) := and64_lit _ (Nat.mod_lt _ (by omega))
theorem shr32 (n : Nat) : (n : Int) / (4294967296 : Int) = ((n >>> 32 : Nat) : Int) := by
  rw [Nat.shiftRight_eq_div_pow]; omega
theorem mul32 (n : Nat) : (n : Int) * (4294967296 : Int) = ((n * 4294967296 : Nat) : Int) := by omega
theorem and_lt64 (n m : Nat) (h : m < 18446744073709551616) : n &&& m < 18446744073709551616 := Nat.lt_of_le_of_lt Nat.and_le_right h
theorem or64_mod (n k : Nat) : bits .or .u64 ((n % 18446744073709551616 : Nat) : Int) ((k % 18446744073709551616 &&& 4294967295 : Nat) : Int) = ((n % 18446744073709551616 ||| (k % 18446744073709551616 &&& 4294967295) : Nat) : Int) :=
  or64 _ _ (Nat.mod_lt _ (by omega)) (and_lt64 _ _ (by omega))
theorem wideHi_lt (a b : Nat) : wideHi a b < 18446744073709551616 := Nat.mod_lt _ (by omega)
theorem wideLo_lt (a b : Nat) : wideLo a b < 18446744073709551616 := Nat.or_lt_two_pow (n := 64) (Nat.mod_lt _ (by omega)) (and_lt64 _ _ (by omega))
theorem wide_any (a b : Nat) (w : World) (ha : a < 18446744073709551616) (hb : b < 18446744073709551616) : Calls Tryd.prog 82 #[.int .u64 a, .int .u64 b] w (fun e w' => e = .returned (.tuple #[.int .u64 (wideHi a b : Nat), .int .u64 (wideLo a b : Nat)]) ∧ w = w') := by
  go_enter Tryd.func82, Tryd.ntmps82
  go_wp2_with fail
  rw [and64_lit a ha, and64_lit b hb]
  simp only [shr32, ← Int.natCast_mul, ← Int.natCast_add, u64_cast, and64_mod, mul32, or64_mod]
  go_ret2
  exact ⟨rfl, rfl⟩
theorem wide_r (a b : Nat) (w : World) (ha : a < 18446744073709551616) (hb : b < 18446744073709551616) : Calls Tryd.prog 82 #[.int .u64 a, .int .u64 b] w (fun e w' => e = .returned (.tuple #[.int .u64 (wideHi a b : Nat), .int .u64 (wideLo a b : Nat)]) ∧ w' = w) :=
  (wide_any a b w ha hb).mono fun _ _ h => ⟨h.1, h.2.symm⟩
theorem bool_eqI (a b : Nat) : (((a : Int) == (b : Int)) : Bool) = decide (a = b) := by
  by_cases h : a = b
  · subst h; simp
  · simp [h]; omega
def RBoolP (w : World) (v : Bool) (e : Ending) (w' : World) : Prop := e = .returned (.bool v) ∧ w = w'
theorem atMost2_any (r p : Nat) (w : World) (hr : r < 18446744073709551616) (hp : p < 18446744073709551616) : Calls Tryd.prog 79 #[.int .u64 r, .int .u64 p, .int .i64 2] w (RBoolP w (atMost2 r p)) := by
  have HC := Lib.hid (wide_any r r w hr hr)
  unfold atMost2
  generalize wideHi r r = x at *
  generalize wideLo r r = y at *
  rcases Nat.lt_trichotomy x p with h | h | h
  · rw [decide_eq_true h, Bool.true_or]
    go_enter Tryd.func79, Tryd.ntmps79
    go_wp2_with (go_at_call 82; refine HC.out.mono ?_; rintro e w' ⟨rfl, rfl⟩)
    go_ret
    exact ⟨rfl, rfl⟩
  · have t1 : ¬ x < p := by omega
    have t2 : ((x : Int) == (p : Int)) = true := by rw [bool_eqI, decide_eq_true h]
    have t3 := bool_eqI y 0
    rw [decide_eq_false t1, decide_eq_true h, Bool.false_or, Bool.true_and, ← t3]
    clear h t3
    go_enter Tryd.func79, Tryd.ntmps79
    go_wp2_with (go_at_call 82; refine HC.out.mono ?_; rintro e w' ⟨rfl, rfl⟩)
    go_ret
    exact ⟨rfl, rfl⟩
  · have t1 : ¬ x < p := by omega
    have t2 : ((x : Int) == (p : Int)) = false := by rw [bool_eqI, decide_eq_false (by omega)]
    rw [decide_eq_false t1, decide_eq_false (show ¬ x = p by omega), Bool.false_or, Bool.false_and]
    go_enter Tryd.func79, Tryd.ntmps79
    go_wp2_with (go_at_call 82; refine HC.out.mono ?_; rintro e w' ⟨rfl, rfl⟩)
    go_ret
    exact ⟨rfl, rfl⟩
theorem atMost3_any (r p : Nat) (w : World) (hr : r < 18446744073709551616) (hp : p < 18446744073709551616) : Calls Tryd.prog 79 #[.int .u64 r, .int .u64 p, .int .i64 3] w (RBoolP w (atMost3 r p)) := by
  have HC := Lib.hid (wide_any r r w hr hr)
  have l1 := wideHi_lt r r
  have l2 := wideLo_lt r r
  unfold atMost3 topN
  generalize wideHi r r = x at *
  generalize wideLo r r = y at *
  have HC2 := Lib.hid (wide_any y r w l2 hr)
  have HC3 := Lib.hid (wide_any x r w l1 hr)
  generalize wideHi y r = h1 at *
  generalize wideLo y r = k1 at *
  generalize wideHi x r = h3 at *
  generalize wideLo x r = h2 at *
  have e1 : IntKind.u64.wrap ((h2 : Int) + (h1 : Int)) = (((h2 + h1) % 18446744073709551616 : Nat) : Int) := by rw [← Int.natCast_add, u64_cast]
  have e2 : IntKind.u64.wrap ((p : Int) * 4294967296) = (((p * 4294967296) % 18446744073709551616 : Nat) : Int) := by rw [mul32, u64_cast]
  generalize (h2 + h1) % 18446744073709551616 = top at *
  generalize (p * 4294967296) % 18446744073709551616 = q at *
  have d0 : ((3 : Int) == 2) = false := rfl
  by_cases c1 : top < h2
  · rw [if_pos c1]
    go_enter Tryd.func79, Tryd.ntmps79
    go_wp2_with fail
    refine HC.out.mono ?_; rintro e w' ⟨rfl, rfl⟩
    go_wp2_with fail
    refine HC2.out.mono ?_; rintro e w' ⟨rfl, rfl⟩
    go_wp2_with fail
    refine HC3.out.mono ?_; rintro e w' ⟨rfl, rfl⟩
    go_wp2_with fail
    go_ret
    exact ⟨rfl, rfl⟩
  · rw [if_neg c1]
    rcases Nat.lt_trichotomy top q with h | h | h
    · rw [decide_eq_true h, Bool.true_or]
      go_enter Tryd.func79, Tryd.ntmps79
      go_wp2_with fail
      refine HC.out.mono ?_; rintro e w' ⟨rfl, rfl⟩
      go_wp2_with fail
      refine HC2.out.mono ?_; rintro e w' ⟨rfl, rfl⟩
      go_wp2_with fail
      refine HC3.out.mono ?_; rintro e w' ⟨rfl, rfl⟩
      go_wp2_with fail
      go_ret
      exact ⟨rfl, rfl⟩
    · have t1 : ¬ top < q := by omega
      have t2 : ((top : Int) == (q : Int)) = true := by rw [bool_eqI, decide_eq_true h]
      have t3 := bool_eqI k1 0
      rw [decide_eq_false t1, decide_eq_true h, Bool.false_or, Bool.true_and, ← t3]
      clear h t3
      go_enter Tryd.func79, Tryd.ntmps79
      go_wp2_with fail
      refine HC.out.mono ?_; rintro e w' ⟨rfl, rfl⟩
      go_wp2_with fail
      refine HC2.out.mono ?_; rintro e w' ⟨rfl, rfl⟩
      go_wp2_with fail
      refine HC3.out.mono ?_; rintro e w' ⟨rfl, rfl⟩
      go_wp2_with fail
      go_ret
      exact ⟨rfl, rfl⟩
    · have t1 : ¬ top < q := by omega
      have t2 : ((top : Int) == (q : Int)) = false := by rw [bool_eqI, decide_eq_false (by omega)]
      rw [decide_eq_false t1, decide_eq_false (show ¬ top = q by omega), Bool.false_or, Bool.false_and]
      go_enter Tryd.func79, Tryd.ntmps79
      go_wp2_with fail
      refine HC.out.mono ?_; rintro e w' ⟨rfl, rfl⟩
      go_wp2_with fail
      refine HC2.out.mono ?_; rintro e w' ⟨rfl, rfl⟩
      go_wp2_with fail
      refine HC3.out.mono ?_; rintro e w' ⟨rfl, rfl⟩
      go_wp2_with fail
      go_ret
      exact ⟨rfl, rfl⟩
theorem atMost_any (r p k : Nat) (w : World) (hk : k = 2 ∨ k = 3) (hr : r < 18446744073709551616) (hp : p < 18446744073709551616) : Calls Tryd.prog 79 #[.int .u64 r, .int .u64 p, .int .i64 k] w (RBoolP w (atMostN r p k)) := by
  rcases hk with rfl | rfl
  · have e : atMostN r p 2 = atMost2 r p := if_pos rfl
    rw [e, show ((2 : Nat) : Int) = 2 from rfl]
    exact atMost2_any r p w hr hp
  · have e : atMostN r p 3 = atMost3 r p := if_neg (by omega)
    rw [e, show ((3 : Nat) : Int) = 3 from rfl]
    exact atMost3_any r p w hr hp
def RootP (w : World) (v : Nat) (e : Ending) (w' : World) : Prop := e = .returned (.int .u32 v) ∧ w = w'
theorem root_any (p k : Nat) (w : World) (hk : k = 2 ∨ k = 3) (hp : p < 18446744073709551616) : Calls Tryd.prog 63 #[.int .u64 p, .int .i64 k] w (RootP w (rootN p k)) := by
  have HK := Lib.hid hk
  clear hk
  go_enter Tryd.func63, Tryd.ntmps63
  go_wp2_with fail
  go_loop [5, 6] (fun r b => ∃ n : Nat, n ≤ 37 ∧ b = .int .i64 (36 - (n : Int)) ∧ r = .int .u64 ((rootTo p k n : Nat) : Int)) (fun _ b => (intOf b + 1).toNat)
  case atStart => exact ⟨0, by omega, rfl, rfl⟩
  case round =>
    obtain ⟨n, hn, rfl, rfl⟩ := hrel
    have hlt := rootTo_lt p k n hn
    by_cases h37 : n < 37
    · have hx : rootTo p k n ||| 2 ^ (36 - n) < 137438953472 := by
        have h2 : 2 ^ (36 - n) < 2 ^ 37 := Nat.pow_lt_pow_right (by omega) (by omega)
        exact Nat.or_lt_two_pow (n := 37) (by omega) h2
      have hs : rootTo p k (n + 1) = if atMostN (rootTo p k n ||| 2 ^ (36 - n)) p k then rootTo p k n ||| 2 ^ (36 - n) else rootTo p k n := rfl
      have hc := atMost_any (rootTo p k n ||| 2 ^ (36 - n)) p k w HK.out (by omega) hp
      have he : bits .or .u64 ((rootTo p k n : Nat) : Int) (IntKind.u64.wrap (2 ^ (36 - n))) = ((rootTo p k n ||| 2 ^ (36 - n) : Nat) : Int) := by
        have h2 : 2 ^ (36 - n) < 2 ^ 37 := Nat.pow_lt_pow_right (by omega) (by omega)
        have h3 : (2 : Int) ^ (36 - n) = ((2 ^ (36 - n) : Nat) : Int) := by simp
        rw [h3, u64_cast, Nat.mod_eq_of_lt (by omega), or64 _ _ (by omega) (by omega)]
      generalize rootTo p k n ||| 2 ^ (36 - n) = x at *
      generalize rootTo p k n = r at *
      have m1 : IntKind.u64.wrap (36 - (n : Int)) = 36 - (n : Int) := IntWalk.u64_in _ (by omega)
      have m2 : (36 - (n : Int)).toNat = 36 - n := by omega
      have m3 : (0 : Int) ≤ 36 - (n : Int) := by omega
      have m4 : 36 - n < 64 := by omega
      have HS := Lib.hid hs
      have HC := Lib.hid hc
      clear hs hc
      cases hb : atMostN x p k with
      | true =>
        rw [hb] at HC
        have HBb := Lib.hid hb
        clear hb
        go_wp2_with (go_at_call 79; refine HC.out.mono ?_; rintro e w' ⟨rfl, rfl⟩)
        exact ⟨⟨n + 1, by omega, by rw [show (36 : Int) - (n : Int) - 1 = 36 - ((n + 1 : Nat) : Int) by omega], by rw [HS.out, if_pos HBb.out]⟩, by simp [intOf]; omega⟩
      | false =>
        rw [hb] at HC
        have HBb := Lib.hid hb
        clear hb
        go_wp2_with (go_at_call 79; refine HC.out.mono ?_; rintro e w' ⟨rfl, rfl⟩)
        exact ⟨⟨n + 1, by omega, by rw [show (36 : Int) - (n : Int) - 1 = 36 - ((n + 1 : Nat) : Int) by omega], by rw [HS.out, if_neg (by rw [HBb.out]; decide)]⟩, by simp [intOf]; omega⟩
    · obtain rfl : n = 37 := by omega
      rw [show (36 : Int) - ((37 : Nat) : Int) = -1 from rfl]
      have hw : IntKind.u32.wrap ((rootTo p k 37 : Nat) : Int) = ((rootN p k : Nat) : Int) := by
        unfold rootN
        rw [IntKind.wrap_u32]; omega
      have HW := Lib.hid hw
      clear hw
      go_wp2_with fail
      go_ret
      exact ⟨by unfold rootN; rfl, rfl⟩
/-! ### primes -/
def u64s (xs : List Nat) : List Value := xs.map fun x : Nat => Value.int .u64 (x : Int)
theorem map_ne {α β : Type} {f : α → β} {xs : List α} {t : Nat} (h : t < xs.length) : xs.map f ≠ [] := by
  intro e
  rw [List.map_eq_nil_iff.1 e] at h
  simp at h
theorem u64s_length (xs : List Nat) : (u64s xs).length = xs.length := by simp [u64s]
theorem u64s_one (xs : List Nat) : ∀ v ∈ u64s xs, v.oneCell' = true := fun v hv => by
  obtain ⟨x, _, rfl⟩ := List.mem_map.1 hv
  rfl
theorem infoU64 : (Tryd.prog.info? 105).map (fun i => (i.zero, i.size, i.bytes)) = some (some (.int .u64 0), 1, 8) := by kernel_rfl
theorem infoU32 : (Tryd.prog.info? 107).map (fun i => (i.zero, i.size, i.bytes)) = some (some (.int .u32 0), 1, 4) := by kernel_rfl
theorem isPrime_snoc (p : Nat) (qs : List Nat) (j : Nat) (h : j < qs.length) : isPrimeTo p (qs.take (j + 1)) = (isPrimeTo p (qs.take j) && decide (p % qs.getD j 0 ≠ 0)) := by
  unfold isPrimeTo
  rw [List.take_succ_eq_append_getElem h, List.all_append]
  simp [h]
def PrimesP (w : World) (ps : List Nat) (e : Ending) (w' : World) : Prop := ∃ v, e = .returned v ∧ w'.ownsRow w.heap.size 105 1 v ps.length (u64s ps) ∧ Below w.heap.size w w'
set_option maxRecDepth 8000 in
set_option maxHeartbeats 1000000 in
theorem primes_any (n : Nat) (w : World) (hn : n = 8 ∨ n = 64) : Calls Tryd.prog 62 #[.int .i64 n] w (PrimesP w (primesTo (primeEnd n))) := by
  obtain ⟨i0, hi, hz0, hz1, hz2⟩ := info_parts infoU64
  have hfew := primes_few n
  have hend := primes_end n hn
  have hpe : primeEnd n ≤ 310 := by unfold primeEnd; split <;> omega
  have hn64 : n ≤ 64 := by omega
  have HN := Lib.hid hn
  have HFew := Lib.hid hfew
  have HEnd := Lib.hid hend
  clear hn hfew hend
  have hzr := World.ownsRow_lit (base := w.heap.size) (e := 105) (size := 1) w #[] 0 (Nat.le_refl _) (by simp [maxLen]) (by simp)
  have HZr := Lib.hid hzr
  clear hzr
  go_enter Tryd.func62, Tryd.ntmps62
  go_wp2_with fail
  go_loopw [3, 4] (fun v p wq => ∃ k : Nat, k ≤ primeEnd n ∧ p = .int .u64 ((k : Int) + 2) ∧ wq.ownsRow w.heap.size 105 1 v (primesTo k).length (u64s (primesTo k)) ∧ Below w.heap.size w wq) (fun _ p _ => primeEnd n + 2 - (intOf p).toNat)
  case atStart => exact ⟨0, Nat.zero_le _, rfl, HZr.out, (Below.refl _ _).alloc (Nat.le_refl _) _⟩
  case round =>
    obtain ⟨k, hk, rfl, hown, hbel⟩ := hrel
    obtain ⟨A1, c1, rfl, hc1, _⟩ := own_slice hown
    have hlen : (primesTo k).length ≤ 64 := by
      have := primesTo_mono k (primeEnd n) hk
      rw [HEnd.out] at this
      omega
    by_cases hlt : k < primeEnd n
    · have hl := HFew.out k HN.out hlt
      have hst : primesTo (k + 1) = if isPrimeTo (k + 2) (primesTo k) then primesTo k ++ [k + 2] else primesTo k := rfl
      have hpos := primesTo_pos k
      generalize primesTo k = qs at *
      have HO := Lib.hid hown
      have HB := Lib.hid hbel
      have HSt := Lib.hid hst
      have HPos := Lib.hid hpos
      clear hown hbel hst hpos
      obtain ⟨wo, rfl⟩ : ∃ x : World, x = wr := ⟨_, rfl⟩
      go_wp2_with fail
      go_loop [5, 17] (fun b j => ∃ t : Nat, t ≤ qs.length ∧ j = .int .i64 t ∧ b = .bool (isPrimeTo (k + 2) (qs.take t))) (fun _ j => qs.length - (intOf j).toNat)
      case atStart => exact ⟨0, Nat.zero_le _, rfl, rfl⟩
      case round =>
        obtain ⟨t, ht, rfl, rfl⟩ := hrel
        by_cases ht2 : t < qs.length
        · have hsn := isPrime_snoc (k + 2) qs t ht2
          have hmem : qs.getD t 0 ∈ qs := by simp [ht2]
          obtain ⟨q1, q2⟩ := HPos.out _ hmem
          obtain ⟨ad, rfl, _, hcell⟩ := RdC.of_own HO.out (map_ne ht2)
          have c2 : wo.cell? (ad.add t) = some (.int .u64 ((qs.getD t 0 : Nat) : Int)) := hcell t _ (by simp [u64s, ht2])
          generalize qs.getD t 0 = q at *
          have j0 : (0 : Int) ≤ (t : Int) := by omega
          have j1 : (t : Int) < (qs.length : Int) := by omega
          have HSn := Lib.hid hsn
          clear hsn hcell hmem
          generalize isPrimeTo (k + 2) (qs.take t) = bb at *
          cases bb with
          | true =>
            have f1 : ((k : Int) + 2).tmod (q : Int) = (((k + 2) % q : Nat) : Int) := by
              rw [Int.tmod_eq_emod_of_nonneg (by omega)]
              simp
            have f2 : ((k : Int) + 2) % (q : Int) = (((k + 2) % q : Nat) : Int) := by simp
            have f3 : (((((k + 2) % q : Nat) : Int)) != 0) = decide ((k + 2) % q ≠ 0) := by
              generalize (k + 2) % q = z
              by_cases hz : z = 0
              · subst hz; rfl
              · simp [hz, bne]
            generalize (k + 2) % q = z at *
            go_wp2_with fail
            exact ⟨⟨t + 1, by omega, by go_num, by rw [HSn.out, Bool.true_and, decide_not]⟩, by simp [intOf]; omega⟩
          | false =>
            go_wp2_with fail
            exact ⟨⟨t + 1, by omega, by go_num, by rw [HSn.out, Bool.false_and]⟩, by simp [intOf]; omega⟩
        · obtain rfl : t = qs.length := by omega
          rw [List.take_length]
          cases hb : isPrimeTo (k + 2) qs with
          | true =>
            have HBb := Lib.hid hb
            have hrn := RdC.new wo #[.int .u64 ((k : Int) + 2)] 105
            have HRn := Lib.hid hrn
            have hbw : w.heap.size ≤ wo.heap.size := HB.out.size
            clear hb hrn
            go_wp2_with (
              at_builtin
              refine wpList_appS _ w.heap.size (.tmp 30) (.tmp 32) 119 105 i0 (.int .u64 0) 1 8 rfl (by rfl) Tryd.underlying119 hi hz0 hz1 hz2 rfl (by omega) (by omega) _ qs.length (u64s qs) (by rfl) (HO.out.alloc _) (some ⟨wo.heap.size, 0, none⟩) 1 1 [.int .u64 ((k : Int) + 2)] (by rfl) (by rfl) HRn.out (by simp [Value.oneCell']) (by omega) (by simp; omega) ?_
              intro v2 w2 hown2 hg2
              have HB2 := Lib.hid (show Below w.heap.size w w2 from hg2.below (HB.out.alloc hbw _) (by simp; omega) (own_base HO.out))
              have HO2 := Lib.hid hown2
              clear hown2 hg2)
            have hs2 : primesTo (k + 1) = qs ++ [k + 2] := by rw [HSt.out, if_pos HBb.out]
            exact ⟨⟨k + 1, by omega, by go_num, by rw [hs2]; simpa [u64s] using HO2.out, HB2.out⟩, by simp [intOf]; omega⟩
          | false =>
            have HBb := Lib.hid hb
            clear hb
            go_wp2_with fail
            have hs2 : primesTo (k + 1) = qs := by rw [HSt.out, if_neg (by rw [HBb.out]; decide)]
            exact ⟨⟨k + 1, by omega, by go_num, by rw [hs2]; exact HO.out, HB.out⟩, by simp [intOf]; omega⟩
    · obtain rfl : k = primeEnd n := by omega
      have hl := HEnd.out
      generalize primesTo (primeEnd n) = qs at *
      have j1 : ¬ ((qs.length : Int) < (n : Int)) := by omega
      have HO := Lib.hid hown
      have HB := Lib.hid hbel
      clear hown hbel hl
      go_wp2_with fail
      go_ret
      exact ⟨_, rfl, HO.out, HB.out⟩
end Go.Proofs.YtpekagkhgegefaaDoor
