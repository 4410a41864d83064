/- Contracts: the first states of the hash functions. Condition: a kind from 1 to 5. -/
import Derived.Test.YtladijfaeieidaaDoorC4
import Derived.Test.YtladijfaeieidaaDoorH1
import Derived.Test.YtladijfaeieidaaDoorH2
import Derived.Test.YtladijfaeieidaaDoorH3
namespace Go.Proofs.YtladijfaeieidaaDoor
open Go.RowKit

/-- The first state of a kind. -/
def init (k : Int) : List Int :=
  if k = 1 then [1732584193, 4023233417, 2562383102, 271733878, 3285377520, 0, 0, 0]
  else if k = 2 then [3238371032, 914150663, 812702999, 4144912697, 4290775857, 1750603025, 1694076839, 3204075428]
  else if k = 3 then [1779033703, 3144134277, 1013904242, 2773480762, 1359893119, 2600822924, 528734635, 1541459225]
  else if k = 4 then [14680500436340154072, 7105036623409894663, 10473403895298186519, 1526699215303891257, 7436329637833083697, 10282925794625328401, 15784041429090275239, 5167115440072839076]
  else [7640891576956012808, 13503953896175478587, 4354685564936845355, 11912009170470909681, 5840696475078001361, 11170449401992604703, 2270897969802886507, 6620516959819538809]
theorem j109 : (Tryd.prog.info? 109).map (·.size) = some 8 := by kernel_rfl
theorem length_init (k : Int) : (init k).length = 8 := by
  unfold init; split <;> (try split) <;> (try split) <;> (try split) <;> rfl

theorem fin89 {w : World} {k : Int} {cs : Array Value} {p q : Obj} {tmps : Array Value} (ht : tmps.getD 2 undef = .pointer (some ⟨w.heap.size, 0, none⟩)) (hc : cs = ((init k).map (Value.int .u64)).toArray) :
    bodyPost Tryd.prog Tryd.f89 (fun e w' => e = Ending.returned (Value.agg (List.map (Value.int IntKind.u64) (init k)).toArray) ∧ Mods Nix w w') Exit.ret { tmps, defers := [] } (((w.alloc (.cells cs 109)).alloc p).alloc q) := by
  refine bodyPost_ret (v := .agg cs) (results_cell_row rfl _ _ w.heap.size 109 cs (0, 0) _ ht ?_ Tryd.underlying109 rfl ?_) rfl ⟨by rw [hc], ((alloc_mods w _).alloc _).alloc _⟩
  · rw [Below.heap_alloc _ _ _ (by simp; omega), Below.heap_alloc _ _ _ (by simp), heap_alloc_new]
  · rw [hc, j109]; simp [length_init]

set_option maxRecDepth 100000 in
set_option maxHeartbeats 4000000 in
theorem f89_1 (w : World) : Calls Tryd.prog 89 #[.int .i64 1] w fun e w' => e = .returned (.agg ((init 1).map (Value.int .u64)).toArray) ∧ Mods Nix w w' := by
  go_enter Tryd.func89, Tryd.ntmps89
  go_wp2_with fail
  exact fin89 rfl (by kernel_rfl)

set_option maxRecDepth 100000 in
set_option maxHeartbeats 4000000 in
theorem f89_2 (w : World) : Calls Tryd.prog 89 #[.int .i64 2] w fun e w' => e = .returned (.agg ((init 2).map (Value.int .u64)).toArray) ∧ Mods Nix w w' := by
  go_enter Tryd.func89, Tryd.ntmps89
  go_wp2_with fail
  refine wp_loop_rounds 9 ?_
  iterate 9 (rw [rounds_succ]; go_wp2_with fail)
  exact fin89 rfl (by kernel_rfl)

set_option maxRecDepth 100000 in
set_option maxHeartbeats 4000000 in
theorem f89_3 (w : World) : Calls Tryd.prog 89 #[.int .i64 3] w fun e w' => e = .returned (.agg ((init 3).map (Value.int .u64)).toArray) ∧ Mods Nix w w' := by
  go_enter Tryd.func89, Tryd.ntmps89
  go_wp2_with fail
  refine wp_loop_rounds 9 ?_
  iterate 9 (rw [rounds_succ]; go_wp2_with fail)
  exact fin89 rfl (by kernel_rfl)

set_option maxRecDepth 100000 in
set_option maxHeartbeats 4000000 in
theorem f89_4 (w : World) : Calls Tryd.prog 89 #[.int .i64 4] w fun e w' => e = .returned (.agg ((init 4).map (Value.int .u64)).toArray) ∧ Mods Nix w w' := by
  go_enter Tryd.func89, Tryd.ntmps89
  go_wp2_with fail
  exact fin89 rfl (by kernel_rfl)

set_option maxRecDepth 100000 in
set_option maxHeartbeats 4000000 in
theorem f89_5 (w : World) : Calls Tryd.prog 89 #[.int .i64 5] w fun e w' => e = .returned (.agg ((init 5).map (Value.int .u64)).toArray) ∧ Mods Nix w w' := by
  go_enter Tryd.func89, Tryd.ntmps89
  go_wp2_with fail
  exact fin89 rfl (by kernel_rfl)

theorem f89 (w : World) (k : Int) (h1 : 1 ≤ k) (h5 : k ≤ 5) : Calls Tryd.prog 89 #[.int .i64 k] w fun e w' => e = .returned (.agg ((init k).map (Value.int .u64)).toArray) ∧ Mods Nix w w' := by
  obtain rfl | rfl | rfl | rfl | rfl : k = 1 ∨ k = 2 ∨ k = 3 ∨ k = 4 ∨ k = 5 := by omega
  · exact f89_1 w
  · exact f89_2 w
  · exact f89_3 w
  · exact f89_4 w
  · exact f89_5 w
end Go.Proofs.YtladijfaeieidaaDoor
