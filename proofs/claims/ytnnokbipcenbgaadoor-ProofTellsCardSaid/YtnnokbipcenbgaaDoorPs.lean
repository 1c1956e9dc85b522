/- Layer 10 (proof) as plain Lean: nonces, proofs, tickets. No program. -/
import Derived.Test.YtnnokbipcenbgaaDoorHs
import Derived.Test.YtnnokbipcenbgaaDoorFs
set_option linter.unusedVariables false
set_option linter.unusedSimpArgs false
set_option linter.unnecessarySimpa false
namespace Go.Proofs.YtnnokbipcenbgaaDoor

def noStr : ByteArray := ⟨#[]⟩
theorem encode_ok (l : Bs) (cs : List Cell) (h : known l = true) (hl : cs.length = l.length) : encode l cs = encAll l cs := by
  unfold encode
  rw [if_neg (by rw [h, hl]; simp)]
theorem enc_q (n : Int) (h0 : 0 ≤ n) (h1 : n ≤ 1099511627776) : encode [113] [⟨n, 0, noStr⟩] = .ok (be n.toNat 8) := by
  have hc : encCell 113 ⟨n, 0, noStr⟩ = .ok (be n.toNat 8) := by
    unfold encCell
    rw [if_neg (by decide), if_neg (by decide), if_neg]
    · rfl
    · have : ((256 ^ width 113 - 1 : Nat) : Int) = 18446744073709551615 := by decide
      simp only [this]
      omega
  rw [encode_ok _ _ (by decide) rfl]
  simp only [encAll, hc, Except.bind, Except.map, List.append_nil]
theorem enc_r (s : ByteArray) (h : s.size ≤ 65535) : encCell 114 ⟨0, 0, s⟩ = .ok (be s.size 2 ++ s.data.toList) := by
  unfold encCell
  rw [if_neg (by decide), if_pos (by decide), if_neg (by simp only [show width 114 = 2 by decide]; omega)]
  rfl
theorem enc_t (s : ByteArray) (h : s.size ≤ 255) : encCell 116 ⟨0, 0, s⟩ = .ok (be s.size 1 ++ s.data.toList) := by
  unfold encCell
  rw [if_neg (by decide), if_pos (by decide), if_neg (by simp only [show width 116 = 1 by decide]; omega)]
  rfl
theorem enc_n (n : Int) (h0 : 0 ≤ n) (h1 : n ≤ 1099511627776) : encCell 113 ⟨n, 0, noStr⟩ = .ok (be n.toNat 8) := by
  have := enc_q n h0 h1
  rw [encode_ok _ _ (by decide) rfl] at this
  cases hc : encCell 113 ⟨n, 0, noStr⟩ with
  | error e => simp [encAll, hc, Except.bind, Except.map] at this
  | ok a => simpa [encAll, hc, Except.bind, Except.map] using this
theorem enc_rt (a b : ByteArray) (ha : a.size ≤ 65535) (hb : b.size ≤ 255) : encode [114, 116] [⟨0, 0, a⟩, ⟨0, 0, b⟩] = .ok ((be a.size 2 ++ a.data.toList) ++ (be b.size 1 ++ b.data.toList)) := by
  rw [encode_ok _ _ (by decide) rfl]
  simp only [encAll, enc_r a ha, enc_t b hb, Except.bind, Except.map, List.append_nil]
theorem enc_tq (a : ByteArray) (n : Int) (ha : a.size ≤ 255) (h0 : 0 ≤ n) (h1 : n ≤ 1099511627776) : encode [116, 113] [⟨0, 0, a⟩, ⟨n, 0, noStr⟩] = .ok ((be a.size 1 ++ a.data.toList) ++ be n.toNat 8) := by
  rw [encode_ok _ _ (by decide) rfl]
  simp only [encAll, enc_t a ha, enc_n n h0 h1, Except.bind, Except.map, List.append_nil]

def nonceB (key : Bs) (n : Nat) : Bs := (keyed key (110 :: be n 8)).take 16
def proveB (token nonce who : Bs) : Bs := keyed token (112 :: ((be nonce.length 2 ++ nonce) ++ (be who.length 1 ++ who)))
def ticketB (key who : Bs) (link : Nat) : Bs := be link 8 ++ (keyed key (116 :: ((be who.length 1 ++ who) ++ be link 8))).take 24
def secretOk (b : Bs) : Bool := decide (1 ≤ b.length ∧ b.length ≤ 64)
def whoOk (b : Bs) : Bool := decide (1 ≤ b.length ∧ b.length ≤ 16)
def numOk (n : Int) : Bool := decide (0 ≤ n ∧ n ≤ 1099511627776)
def nonceR (key : Bs) (n : Int) : Except Er Bs := if secretOk key = true ∧ numOk n = true then .ok (nonceB key n.toNat) else .error .range
def proveR (token nonce who : Bs) : Except Er Bs := if secretOk token = true ∧ nonce.length = 16 ∧ whoOk who = true then .ok (proveB token nonce who) else .error .range
def ticketR (key who : Bs) (link : Int) : Except Er Bs := if secretOk key = true ∧ whoOk who = true ∧ numOk link = true then .ok (ticketB key who link.toNat) else .error .range
def openR (key who t : Bs) : Except Er Nat :=
  if secretOk key = true ∧ whoOk who = true then
    (if t.length = 32 ∧ num (t.take 8) ≤ 1099511627776 ∧ t = ticketB key who (num (t.take 8)) then .ok (num (t.take 8)) else .error .proof)
  else .error .range
end Go.Proofs.YtnnokbipcenbgaaDoor
