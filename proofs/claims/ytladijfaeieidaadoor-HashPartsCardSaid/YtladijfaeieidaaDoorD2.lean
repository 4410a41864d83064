/- Contracts of the reference hashes: the tables (k256, k512) and words. Conditions: a length that an append may come to. -/
import Derived.Test.YtladijfaeieidaaDoorD1
namespace Go.Proofs.YtladijfaeieidaaDoor
open Go.RowKit

def k256 : List Int := (List.range 64).map (fun t => K t / 4294967296)
def k512 : List Int := (List.range 80).map K
/-- What a function leaves that gives a new slice of numbers. -/
structure TabOut (w w' : World) (t : Nat) (k : IntKind) (a : Option Addr) (n c : Nat) (l : List Int) : Prop where
  own : Own w' t 1 a n c (l.map (Value.int k))
  fresh : New w.heap.size a
  mods : Mods Nix w w'
theorem tab_own (w : World) (t : Nat) (k : IntKind) (cs : Array Value) (l : List Int) (n : Nat) (hc : cs = (l.map (Value.int k)).toArray) (hn : l.length = n) (hm : n ≤ maxLen) : TabOut w (w.alloc (.cells cs t)) t k (some ⟨w.heap.size, 0, none⟩) n n l := by
  subst hc
  exact ⟨own_lit w _ t n (by simp [hn]) hm, new_alloc w, alloc_mods _ _⟩
set_option maxRecDepth 100000 in
set_option maxHeartbeats 1000000 in
theorem f129 (w : World) : Calls Tryd.prog 129 #[] w fun e w' => ∃ a' c', e = .returned (.slice a' 64 c') ∧ TabOut w w' 104 .u32 a' 64 c' k256 := by
  go_enter Tryd.func129, Tryd.ntmps129
  go_wp2_with fail
  go_ret
  exact ⟨_, _, rfl, tab_own w 104 .u32 _ k256 64 (by kernel_rfl) (by simp [k256]) (by simp only [maxLen]; omega)⟩
set_option maxRecDepth 100000 in
set_option maxHeartbeats 1000000 in
theorem f131 (w : World) : Calls Tryd.prog 131 #[] w fun e w' => ∃ a' c', e = .returned (.slice a' 80 c') ∧ TabOut w w' 107 .u64 a' 80 c' k512 := by
  go_enter Tryd.func131, Tryd.ntmps131
  go_wp2_with fail
  go_ret
  exact ⟨_, _, rfl, tab_own w 107 .u64 _ k512 80 (by kernel_rfl) (by simp [k512]) (by simp only [maxLen]; omega)⟩
end Go.Proofs.YtladijfaeieidaaDoor
