/- The walk of HashBig: it answers true. Condition: the table of constants stands. -/
import Derived.Test.YtladijfaeieidaaDoorE1
import Derived.Deep.Cut
namespace Go.Proofs.YtladijfaeieidaaDoor
open Go.RowKit

theorem f27_3 (w : World) : Calls Tryd.prog 27 #[.int .i64 3] w fun e w' => e = .returned (.int .i64 32) ∧ w = w' := f27 3 w
theorem f40a (w : World) : Calls Tryd.prog 40 #[.int .i64 3, .slice none 0 0, .slice none 0 0, .int .i64 65537, .int .i64 1] w fun e w' => e = .returned (.slice none 0 0) ∧ w = w' := by
  go_enter Tryd.func40, Tryd.ntmps40
  go_wp2_with (go_at_call 27; with_reducible refine (f27_3 _).mono ?_; rintro e w' ⟨rfl, rfl⟩)
  go_ret
  exact ⟨rfl, rfl⟩
theorem f40b (w : World) : Calls Tryd.prog 40 #[.int .i64 3, .slice none 0 0, .slice none 0 0, .int .i64 2000, .int .i64 1056] w fun e w' => e = .returned (.slice none 0 0) ∧ w = w' := by
  go_enter Tryd.func40, Tryd.ntmps40
  go_wp2_with (go_at_call 27; with_reducible refine (f27_3 _).mono ?_; rintro e w' ⟨rfl, rfl⟩)
  go_ret
  exact ⟨rfl, rfl⟩
theorem f38_big (w : World) (hg : GK w) (x : Option Addr) (hs : Sv w 5 1 x 1 1 (bv [97])) : Calls Tryd.prog 38 #[.int .i64 1, .slice x 1 1, .int .i64 65536] w fun e w' => ∃ a' c', e = .returned (.slice a' 65536 c') ∧ Mods Nix w w' := by
  have hk1 : Kd 1 := ⟨by omega, by omega⟩
  have hB : Byt [97] := by intro x hx; simp at hx; omega
  refine (f38 w 1 hk1 x 1 1 [97] hs hB (lim_c (by simp)) hg 65536 (by omega) (by omega)).mono ?_
  rintro e w' ⟨a', c', he, hS⟩
  exact ⟨a', c', he, hS.mods⟩
theorem f38_none (w : World) : Calls Tryd.prog 38 #[.int .i64 3, .slice none 0 0, .int .i64 65537] w fun e w' => e = .returned (.slice none 0 0) ∧ w = w' := f38n w 3 65537 none 0 0 (.inr (.inr (by omega)))
set_option maxRecDepth 100000 in
set_option maxHeartbeats 1000000 in
theorem f10 (w : World) (hg : GK w) : Calls Tryd.prog 10 #[] w fun e w' => e = .returned (.bool true) ∧ Mods Nix w w' := by
  have hk1 := convk w #[.int .u8 97] 1 1
  have hS1 := (sv_lit w (bv [97]) 5 1 (1, 2) rfl (by simp only [maxLen]; omega))
  have hM1 : Mods Nix w (w.alloc (.cells #[.int .u8 97] 5 (1, 2))) := alloc_mods _ _
  have T38 := f38_big (w.alloc (.cells #[.int .u8 97] 5 (1, 2))) (hg.mods hM1 (fun f => f)) _ hS1
  have T23 : Behind w fun w1 => Calls Tryd.prog 23 #[] w1 fun e w' => e = .returned (.bool true) ∧ Mods Nix w1 w' := ⟨fun w1 hM => f23 w1 (hg.mods hM (fun f => f))⟩
  clear hS1
  go_enter Tryd.func10, Tryd.ntmps10
  go_upto_region 4 with (first | (go_at_call 38; with_reducible refine (f38_none _).mono ?_; rintro e w' ⟨rfl, rfl⟩) | (go_at_call 40; with_reducible refine (f40a _).mono ?_; rintro e w' ⟨rfl, rfl⟩) | (go_at_call 40; with_reducible refine (f40b _).mono ?_; rintro e w' ⟨rfl, rfl⟩))
  go_upto_region 5 with (first | (go_at_call 38; with_reducible refine T38.mono ?_; rintro e w4 ⟨a4, c4, rfl, hM4⟩))
  have hM14 := hM1.trans' hM4 (fun _ _ f => f)
  clear T38 hk1
  go_wp2_with (first | (go_at_call 23; with_reducible refine (T23.out _ hM14).mono ?_; rintro e w5 ⟨rfl, hM5⟩))
  go_ret
  exact ⟨rfl, hM14.trans' hM5 (fun _ _ f => f)⟩
end Go.Proofs.YtladijfaeieidaaDoor
