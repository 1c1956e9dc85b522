/- The reference's words (layer 2) as plain Lean: primes, roots, out of 64-bit arithmetic. No program. -/
import Derived.Test.YtpekagkhgegefaaDoorHs
set_option linter.unusedVariables false
set_option linter.unusedSimpArgs false
set_option linter.unnecessarySimpa false
namespace Go.Proofs.YtpekagkhgegefaaDoor

def llN (a b : Nat) : Nat := ((a &&& 4294967295) * (b &&& 4294967295)) % 18446744073709551616
def lhN (a b : Nat) : Nat := ((a &&& 4294967295) * (b >>> 32)) % 18446744073709551616
def hlN (a b : Nat) : Nat := ((a >>> 32) * (b &&& 4294967295)) % 18446744073709551616
def hhN (a b : Nat) : Nat := ((a >>> 32) * (b >>> 32)) % 18446744073709551616
def midN (a b : Nat) : Nat := (((llN a b >>> 32) + (lhN a b &&& 4294967295)) % 18446744073709551616 + (hlN a b &&& 4294967295)) % 18446744073709551616
def wideHi (a b : Nat) : Nat := (((hhN a b + (lhN a b >>> 32)) % 18446744073709551616 + (hlN a b >>> 32)) % 18446744073709551616 + (midN a b >>> 32)) % 18446744073709551616
def wideLo (a b : Nat) : Nat := ((midN a b * 4294967296) % 18446744073709551616) ||| (llN a b &&& 4294967295)
def topN (r : Nat) : Nat := (wideLo (wideHi r r) r + wideHi (wideLo r r) r) % 18446744073709551616
def atMost2 (r p : Nat) : Bool := decide (wideHi r r < p) || (decide (wideHi r r = p) && decide (wideLo r r = 0))
def atMost3 (r p : Nat) : Bool := if topN r < wideLo (wideHi r r) r then false else decide (topN r < (p * 4294967296) % 18446744073709551616) || (decide (topN r = (p * 4294967296) % 18446744073709551616) && decide (wideLo (wideLo r r) r = 0))
def atMostN (r p k : Nat) : Bool := if k = 2 then atMost2 r p else atMost3 r p
def rootTo (p k : Nat) : Nat → Nat
  | 0 => 0
  | n + 1 => if atMostN (rootTo p k n ||| 2 ^ (36 - n)) p k then rootTo p k n ||| 2 ^ (36 - n) else rootTo p k n
def rootN (p k : Nat) : Nat := rootTo p k 37 % 4294967296
def isPrimeTo (p : Nat) (qs : List Nat) : Bool := qs.all fun q => decide (p % q ≠ 0)
def primesTo : Nat → List Nat
  | 0 => []
  | n + 1 => if isPrimeTo (n + 2) (primesTo n) then primesTo n ++ [n + 2] else primesTo n
/-- How many numbers are looked at for n primes. -/
def primeEnd (n : Nat) : Nat := if n = 8 then 18 else 310
theorem rootTo_lt (p k : Nat) : ∀ n, n ≤ 37 → rootTo p k n < 137438953472
  | 0, _ => by unfold rootTo; omega
  | n + 1, h => by
    have ih := rootTo_lt p k n (by omega)
    have h2 : 2 ^ (36 - n) < 2 ^ 37 := Nat.pow_lt_pow_right (by omega) (by omega)
    have := Nat.or_lt_two_pow (n := 37) (x := rootTo p k n) (y := 2 ^ (36 - n)) (by omega) h2
    unfold rootTo
    split <;> omega
set_option maxRecDepth 100000
theorem primes8 : (primesTo 18).length = 8 := by decide +kernel
theorem primes64 : (primesTo 310).length = 64 := by decide +kernel
theorem primesTo_mono : ∀ (n m : Nat), n ≤ m → (primesTo n).length ≤ (primesTo m).length
  | n, 0, h => by
    obtain rfl : n = 0 := by omega
    exact Nat.le_refl _
  | n, m + 1, h => by
    rcases Nat.eq_or_lt_of_le h with rfl | h
    · exact Nat.le_refl _
    · refine Nat.le_trans (primesTo_mono n m (by omega)) ?_
      conv => rhs; unfold primesTo
      split
      · rw [List.length_append]; omega
      · exact Nat.le_refl _
theorem primes8' : (primesTo 17).length = 7 := by decide +kernel
theorem primes64' : (primesTo 309).length = 63 := by decide +kernel
theorem primes_few (n k : Nat) (hn : n = 8 ∨ n = 64) (hk : k < primeEnd n) : (primesTo k).length < n := by
  rcases hn with rfl | rfl
  · have := primesTo_mono k 17 (by unfold primeEnd at hk; simp at hk; omega)
    rw [primes8'] at this
    omega
  · have := primesTo_mono k 309 (by unfold primeEnd at hk; simp at hk; omega)
    rw [primes64'] at this
    omega
theorem primes_end (n : Nat) (hn : n = 8 ∨ n = 64) : (primesTo (primeEnd n)).length = n := by
  rcases hn with rfl | rfl
  · exact primes8
  · exact primes64
theorem primesTo_pos : ∀ (n q : Nat), q ∈ primesTo n → 2 ≤ q ∧ q < n + 2
  | 0, q, h => by simp [primesTo] at h
  | n + 1, q, h => by
    unfold primesTo at h
    split at h
    · rcases List.mem_append.1 h with h | h
      · have := primesTo_pos n q h; omega
      · have : q = n + 2 := by simpa using h
        omega
    · have := primesTo_pos n q h; omega
theorem first_roots : (primesTo (primeEnd 8)).map (fun p => rootN p 2) = firstWords := by decide +kernel
theorem round_roots : (primesTo (primeEnd 64)).map (fun p => rootN p 3) = roundWords := by decide +kernel
end Go.Proofs.YtpekagkhgegefaaDoor
