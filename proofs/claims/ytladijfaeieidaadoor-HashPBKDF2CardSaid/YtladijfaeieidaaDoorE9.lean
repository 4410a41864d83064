/- The walk of HashPBKDF2: it answers true. Condition: the table of constants stands. -/
import Derived.Test.YtladijfaeieidaaDoorE9a
import Derived.Test.YtladijfaeieidaaDoorE9b
import Derived.Test.YtladijfaeieidaaDoorE9c
namespace Go.Proofs.YtladijfaeieidaaDoor
open Go.RowKit

theorem f9 (w : World) (hg : GK w) (k : Int) (a : Option Addr) (n0 c : Nat) (l0 : List Int) (hs0 : Sv w 5 1 a n0 c (bv l0)) (hB0 : Byt l0) (y : Option Addr) (m0 d : Nat) (r0 : List Int) (hr0 : Sv w 5 1 y m0 d (bv r0)) (hR0 : Byt r0) (i j : Int) :
    Calls Tryd.prog 9 #[.int .i64 k, .slice a n0 c, .slice y m0 d, .int .i64 i, .int .i64 j] w fun e w' => e = .returned (.bool true) ∧ Mods Nix w w' := by
  by_cases hi : 9 < i
  · by_cases hi2 : i ≤ 65536
    · by_cases hj : 150 < j
      · by_cases hj2 : j ≤ 65536
        · exact f9aa w hg k a n0 c l0 hs0 hB0 y m0 d r0 hr0 hR0 i j hi hi2 hj hj2
        · exact f9ac w hg k a n0 c l0 hs0 hB0 y m0 d r0 hr0 hR0 i j hi hi2 hj hj2
      · exact f9ab w hg k a n0 c l0 hs0 hB0 y m0 d r0 hr0 hR0 i j hi hi2 hj
    · by_cases hj : 150 < j
      · by_cases hj2 : j ≤ 65536
        · exact f9ca w hg k a n0 c l0 hs0 hB0 y m0 d r0 hr0 hR0 i j hi hi2 hj hj2
        · exact f9cc w hg k a n0 c l0 hs0 hB0 y m0 d r0 hr0 hR0 i j hi hi2 hj hj2
      · exact f9cb w hg k a n0 c l0 hs0 hB0 y m0 d r0 hr0 hR0 i j hi hi2 hj
  · by_cases hj : 150 < j
    · by_cases hj2 : j ≤ 65536
      · exact f9ba w hg k a n0 c l0 hs0 hB0 y m0 d r0 hr0 hR0 i j hi hj hj2
      · exact f9bc w hg k a n0 c l0 hs0 hB0 y m0 d r0 hr0 hR0 i j hi hj hj2
    · exact f9bb w hg k a n0 c l0 hs0 hB0 y m0 d r0 hr0 hR0 i j hi hj
end Go.Proofs.YtladijfaeieidaaDoor
