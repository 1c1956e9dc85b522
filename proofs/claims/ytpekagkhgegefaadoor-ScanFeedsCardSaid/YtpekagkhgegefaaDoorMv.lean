/- The sentinels of package api, all eighteen, from a row's list. -/
import Derived.Test.YtpekagkhgegefaaDoorMi
set_option linter.unusedVariables false
set_option linter.unusedSimpArgs false
set_option linter.unnecessarySimpa false
namespace Go.Proofs.YtpekagkhgegefaaDoor
open Go.RowKit

def erTxt : Er → List UInt8
  | .range => [106, 97, 99, 107, 102, 105, 101, 108, 100, 58, 32, 114, 97, 110, 103, 101]
  | .short => [106, 97, 99, 107, 102, 105, 101, 108, 100, 58, 32, 115, 104, 111, 114, 116]
  | .long => [106, 97, 99, 107, 102, 105, 101, 108, 100, 58, 32, 108, 111, 110, 103]
  | .tail => [106, 97, 99, 107, 102, 105, 101, 108, 100, 58, 32, 116, 97, 105, 108]
  | .broken => [106, 97, 99, 107, 102, 105, 101, 108, 100, 58, 32, 98, 114, 111, 107, 101, 110]
  | .power => [106, 97, 99, 107, 102, 105, 101, 108, 100, 58, 32, 112, 111, 119, 101, 114]
  | .frame => [106, 97, 99, 107, 102, 105, 101, 108, 100, 58, 32, 102, 114, 97, 109, 101]
  | .full => [106, 97, 99, 107, 102, 105, 101, 108, 100, 58, 32, 102, 117, 108, 108]
  | .gap => [106, 97, 99, 107, 102, 105, 101, 108, 100, 58, 32, 103, 97, 112]
  | .name => [106, 97, 99, 107, 102, 105, 101, 108, 100, 58, 32, 110, 97, 109, 101]
  | .taken => [106, 97, 99, 107, 102, 105, 101, 108, 100, 58, 32, 116, 97, 107, 101, 110]
  | .none => [106, 97, 99, 107, 102, 105, 101, 108, 100, 58, 32, 110, 111, 110, 101]
  | .owner => [106, 97, 99, 107, 102, 105, 101, 108, 100, 58, 32, 111, 119, 110, 101, 114]
  | .proof => [106, 97, 99, 107, 102, 105, 101, 108, 100, 58, 32, 112, 114, 111, 111, 102]
  | .window => [106, 97, 99, 107, 102, 105, 101, 108, 100, 58, 32, 119, 105, 110, 100, 111, 119]
  | .stream => [106, 97, 99, 107, 102, 105, 101, 108, 100, 58, 32, 115, 116, 114, 101, 97, 109]
  | .state => [106, 97, 99, 107, 102, 105, 101, 108, 100, 58, 32, 115, 116, 97, 116, 101]
  | .busy => [106, 97, 99, 107, 102, 105, 101, 108, 100, 58, 32, 98, 117, 115, 121]
theorem erTxt_inj : ∀ e e', erTxt e = erTxt e' → e = e' := by
  intro e e' h
  cases e <;> cases e' <;> first | rfl | exact absurd h (by decide)
theorem mk18 {W : World} {es : Er → Addr} (h : ∀ e, ErrAt W.heap.size W (erG e) (es e)) (ht : ∀ e, ∃ s : ByteArray, W.cell? (es e) = some (.string s) ∧ s.data.toList = erTxt e) : E18 W.heap.size W es :=
  ⟨h, fun e e' he => by
    obtain ⟨s, c, t⟩ := ht e
    obtain ⟨s', c', t'⟩ := ht e'
    rw [he, c'] at c
    cases c
    exact erTxt_inj _ _ (t.symm.trans t')⟩
end Go.Proofs.YtpekagkhgegefaaDoor
