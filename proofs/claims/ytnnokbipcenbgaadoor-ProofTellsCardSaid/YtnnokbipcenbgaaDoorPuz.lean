/- Walk of the statement ProofTells: the four ways joined. -/
import Derived.Test.YtnnokbipcenbgaaDoorPua
import Derived.Test.YtnnokbipcenbgaaDoorPub
import Derived.Test.YtnnokbipcenbgaaDoorPuc
import Derived.Test.YtnnokbipcenbgaaDoorPud
namespace Go.Proofs.YtnnokbipcenbgaaDoor
open Go.RowKit

theorem tells_any (es : Er → Addr) (w : World) (K N R : Option Addr) (kc nc rc : Nat) (key nonce by_ : Bs) (who : ByteArray) (n : Int) (hE : PEnv w es) (hE18 : E18 w.heap.size w es) (hK : RdC (· < w.heap.size) w K (bvs key)) (hkc : key.length ≤ kc)
    (hN : RdC (· < w.heap.size) w N (bvs nonce)) (hR : RdC (· < w.heap.size) w R (bvs by_))
    (hla : key.length ≤ 9223372036854775807) (hlb : nonce.length ≤ 9223372036854775807) (hls : who.size ≤ 9223372036854775807) (hld : by_.length ≤ 9223372036854775807) :
    Calls Tryd.prog 5 #[.agg #[.slice K key.length kc, .slice N nonce.length nc, .string who, .int .i64 n, .slice R by_.length rc]] w (OkPost10 w) := by
  rcases res_cases (nonceR key n) (fun er h => nonceR_er h) with h1 | h1 <;> rcases res_cases (ticketR key who.data.toList n) (fun er h => ticketR_er h) with h3 | h3
  · exact tells_walk_a es w K N R kc nc rc key nonce by_ who n hE hE18 hK hkc hN hR hla hlb hls hld h1 h3
  · exact tells_walk_b es w K N R kc nc rc key nonce by_ who n hE hE18 hK hkc hN hR hla hlb hls hld h1 h3
  · exact tells_walk_c es w K N R kc nc rc key nonce by_ who n hE hE18 hK hkc hN hR hla hlb hls hld h1 h3
  · exact tells_walk_d es w K N R kc nc rc key nonce by_ who n hE hE18 hK hkc hN hR hla hlb hls hld h1 h3
end Go.Proofs.YtnnokbipcenbgaaDoor
