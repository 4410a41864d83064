/- The walk of HashMGF1: it answers true. Condition: the table of constants stands. -/
import Derived.Test.YtladijfaeieidaaDoorE2
import Derived.Test.YtladijfaeieidaaDoorD10
import Derived.Deep.RegionWith
import Derived.Deep.Cut
namespace Go.Proofs.YtladijfaeieidaaDoor
open Go.RowKit

/-- How long the mask is: what is asked for, or nothing. -/
def mgn (k n : Int) : Nat := if hsz k = 0 ∨ n < 1 ∨ 65536 < n then 0 else n.toNat
/-- The mask, or nothing. -/
def mgf0 (k : Int) (l : List Int) (n : Int) : List Int := if hsz k = 0 ∨ n < 1 ∨ 65536 < n then [] else mgf k l n.toNat
theorem bad_or (k n : Int) : (hsz k = 0 ∨ n < 1 ∨ 65536 < n) ↔ (NoKd k ∨ n < 1 ∨ 65536 < n) := by
  constructor
  · rintro (h | h)
    · exact .inl ⟨fun hk => by have := hsz_pos hk; omega⟩
    · exact .inr h
  · rintro (h | h)
    · exact .inl (hsz_no h)
    · exact .inr h
theorem sv_none (w : World) : SvOut w w none 0 0 [] := ⟨by simpa [bv] using (Own.none w 5 1).toSv, New.none _, Mods.refl _ _⟩
theorem f38g (w : World) (k : Int) (x : Option Addr) (n c : Nat) (l : List Int) (hs : Sv w 5 1 x n c (bv l)) (hB : Byt l) (hl : Lim (l.length + 1000)) (hg : GK w) (N : Int) :
    Calls Tryd.prog 38 #[.int .i64 k, .slice x n c, .int .i64 N] w fun e w' => ∃ a' c', e = .returned (.slice a' (mgn k N) c') ∧ SvOut w w' a' (mgn k N) c' (mgf0 k l N) := by
  by_cases h : hsz k = 0 ∨ N < 1 ∨ 65536 < N
  · rw [mgn, mgf0, if_pos h, if_pos h]
    refine (f38n w k N x n c ((bad_or k N).1 h)).mono ?_
    rintro e w' ⟨rfl, rfl⟩
    exact ⟨none, 0, rfl, sv_none w⟩
  · rw [mgn, mgf0, if_neg h, if_neg h]
    have hk : Kd k := (kd_or k).resolve_right (fun hn => h (.inl (hsz_no hn)))
    obtain ⟨M, rfl⟩ := Int.eq_ofNat_of_zero_le (show 0 ≤ N by omega)
    exact f38 w k hk x n c l hs hB (hl.of (by omega)) hg M (by omega) (by omega)
theorem f39g (w : World) (k : Int) (x : Option Addr) (n c : Nat) (l : List Int) (hs : Sv w 5 1 x n c (bv l)) (hB : Byt l) (hl : Lim (l.length + 1000)) (N : Int) :
    Calls Tryd.prog 39 #[.int .i64 k, .slice x n c, .int .i64 N] w fun e w' => ∃ a' c', e = .returned (.slice a' (mgn k N) c') ∧ SvOut w w' a' (mgn k N) c' (mgf0 k l N) := by
  by_cases h : hsz k = 0 ∨ N < 1 ∨ 65536 < N
  · rw [mgn, mgf0, if_pos h, if_pos h]
    refine (f39n w k N x n c ((bad_or k N).1 h)).mono ?_
    rintro e w' ⟨rfl, rfl⟩
    exact ⟨none, 0, rfl, sv_none w⟩
  · rw [mgn, mgf0, if_neg h, if_neg h]
    have hk : Kd k := (kd_or k).resolve_right (fun hn => h (.inl (hsz_no hn)))
    obtain ⟨M, rfl⟩ := Int.eq_ofNat_of_zero_le (show 0 ≤ N by omega)
    exact f39 w k hk x n c l hs hB hl M (by omega) (by omega)
theorem lim_small2 {n : Nat} (h : n ≤ 3000) : Lim n := ⟨by omega⟩
set_option maxRecDepth 100000 in
set_option maxHeartbeats 4000000 in
theorem f8a (w : World) (hg : GK w) (k : Int) (a : Option Addr) (n0 c : Nat) (l0 : List Int) (hs0 : Sv w 5 1 a n0 c (bv l0)) (hB0 : Byt l0) (i : Int) (hi : 300 < i) (hi2 : i ≤ 65536) :
    Calls Tryd.prog 8 #[.int .i64 k, .slice a n0 c, .int .i64 i] w fun e w' => e = .returned (.bool true) ∧ Mods Nix w w' := by
  have hs := sv_min hs0 80
  have T24a : ∀ w1, Calls Tryd.prog 24 #[.slice a n0 c, .int .i64 80] w1 fun e w' => e = .returned (.slice a (min n0 80) c) ∧ w1 = w' := fun w1 => f24w w1 a n0 c hs0.le 80 80 rfl (by omega)
  have hn2 := Nat.min_le_right n0 80
  obtain ⟨n, hn⟩ : ∃ n, n = min n0 80 := ⟨_, rfl⟩
  rw [← hn] at hs T24a hn2
  clear hn
  obtain ⟨l, hl⟩ : ∃ l, l = l0.take 80 := ⟨_, rfl⟩
  have hB : Byt l := by rw [hl]; exact hB0.take _
  rw [← hl] at hs
  clear hl
  have hll : l.length = n := by have := hs.len; simpa [bv] using this
  have T38 : Behind w fun w1 => Calls Tryd.prog 38 #[.int .i64 k, .slice a n c, .int .i64 (i % 301)] w1.drew fun e w' => ∃ a' m' c', e = .returned (.slice a' m' c') ∧ Mods Nix w w' ∧ Cv w' (.slice a' m' c') (strOfNums (mgf0 k l (i % 301))) := by
    refine ⟨fun w1 hM => ?_⟩
    refine (f38g _ k a n c l (hs.mods hM.drew (fun _ _ f => f)) hB (lim_small2 (by omega)) (hg.mods hM.drew (fun f => f)) (i % 301)).mono ?_
    rintro e w' ⟨a', c', rfl, hS⟩
    exact ⟨a', _, c', rfl, hM.drew.trans' hS.mods (fun _ _ f => f), hS.sv.cv⟩
  have T39 : Behind w fun w1 => Calls Tryd.prog 39 #[.int .i64 k, .slice a n c, .int .i64 (i % 301)] w1 fun e w' => ∃ a' m' c', e = .returned (.slice a' m' c') ∧ Mods Nix w1 w' ∧ Mods Nix w w' ∧ (convert 22 9 (.slice a' m' c')).run Tryd.prog w' = .ok (.string (strOfNums (mgf0 k l (i % 301)))) w' := by
    refine ⟨fun w1 hM => ?_⟩
    refine (f39g w1 k a n c l (hs.mods hM (fun _ _ f => f)) hB (lim_small2 (by omega)) (i % 301)).mono ?_
    rintro e w' ⟨a', c', rfl, hS⟩
    exact ⟨a', _, c', rfl, hS.mods, hM.trans' hS.mods (fun _ _ f => f), conv hS.sv⟩
  have T23 := f23 w hg
  clear hs hs0 hB hB0 hll hg hn2
  go_enter Tryd.func8, Tryd.ntmps8
  go_upto_region 5 with (first | (go_at_call 23; with_reducible refine T23.mono ?_; rintro e w1 ⟨rfl, hM1⟩) | (go_at_call 24; with_reducible refine (T24a _).mono ?_; rintro e w' ⟨rfl, rfl⟩))
  have T5 := T38.out _ hM1
  clear T23 T24a T38
  go_region_with (first | (go_at_call 38; with_reducible refine T5.mono ?_; rintro e w5 ⟨a5, m5, c5, rfl, hM5, cv5⟩; have k5 := cv5.out _ (Mods.refl Nix w5); have T6 := T39.out _ hM5) | (go_at_call 39; with_reducible refine T6.mono ?_; rintro e w6 ⟨a6, m6, c6, rfl, hM56, hM6, k6⟩; have k5b := cv5.out _ hM56))
  all_goals
    go_wp2_with fail
    go_ret
    exact ⟨rfl, hM6⟩
set_option maxRecDepth 100000 in
set_option maxHeartbeats 4000000 in
theorem f8b (w : World) (hg : GK w) (k : Int) (a : Option Addr) (n0 c : Nat) (l0 : List Int) (hs0 : Sv w 5 1 a n0 c (bv l0)) (hB0 : Byt l0) (i : Int) (hi : ¬ 300 < i) :
    Calls Tryd.prog 8 #[.int .i64 k, .slice a n0 c, .int .i64 i] w fun e w' => e = .returned (.bool true) ∧ Mods Nix w w' := by
  have hs := sv_min hs0 80
  have T24a : ∀ w1, Calls Tryd.prog 24 #[.slice a n0 c, .int .i64 80] w1 fun e w' => e = .returned (.slice a (min n0 80) c) ∧ w1 = w' := fun w1 => f24w w1 a n0 c hs0.le 80 80 rfl (by omega)
  have hn2 := Nat.min_le_right n0 80
  obtain ⟨n, hn⟩ : ∃ n, n = min n0 80 := ⟨_, rfl⟩
  rw [← hn] at hs T24a hn2
  clear hn
  obtain ⟨l, hl⟩ : ∃ l, l = l0.take 80 := ⟨_, rfl⟩
  have hB : Byt l := by rw [hl]; exact hB0.take _
  rw [← hl] at hs
  clear hl
  have hll : l.length = n := by have := hs.len; simpa [bv] using this
  have T38 : Behind w fun w1 => Calls Tryd.prog 38 #[.int .i64 k, .slice a n c, .int .i64 i] w1.drew fun e w' => ∃ a' m' c', e = .returned (.slice a' m' c') ∧ Mods Nix w w' ∧ Cv w' (.slice a' m' c') (strOfNums (mgf0 k l i)) := by
    refine ⟨fun w1 hM => ?_⟩
    refine (f38g _ k a n c l (hs.mods hM.drew (fun _ _ f => f)) hB (lim_small2 (by omega)) (hg.mods hM.drew (fun f => f)) i).mono ?_
    rintro e w' ⟨a', c', rfl, hS⟩
    exact ⟨a', _, c', rfl, hM.drew.trans' hS.mods (fun _ _ f => f), hS.sv.cv⟩
  have T39 : Behind w fun w1 => Calls Tryd.prog 39 #[.int .i64 k, .slice a n c, .int .i64 i] w1 fun e w' => ∃ a' m' c', e = .returned (.slice a' m' c') ∧ Mods Nix w1 w' ∧ Mods Nix w w' ∧ (convert 22 9 (.slice a' m' c')).run Tryd.prog w' = .ok (.string (strOfNums (mgf0 k l i))) w' := by
    refine ⟨fun w1 hM => ?_⟩
    refine (f39g w1 k a n c l (hs.mods hM (fun _ _ f => f)) hB (lim_small2 (by omega)) i).mono ?_
    rintro e w' ⟨a', c', rfl, hS⟩
    exact ⟨a', _, c', rfl, hS.mods, hM.trans' hS.mods (fun _ _ f => f), conv hS.sv⟩
  have T23 := f23 w hg
  clear hs hs0 hB hB0 hll hg hn2
  go_enter Tryd.func8, Tryd.ntmps8
  go_upto_region 5 with (first | (go_at_call 23; with_reducible refine T23.mono ?_; rintro e w1 ⟨rfl, hM1⟩) | (go_at_call 24; with_reducible refine (T24a _).mono ?_; rintro e w' ⟨rfl, rfl⟩))
  have T5 := T38.out _ hM1
  clear T23 T24a T38
  go_region_with (first | (go_at_call 38; with_reducible refine T5.mono ?_; rintro e w5 ⟨a5, m5, c5, rfl, hM5, cv5⟩; have k5 := cv5.out _ (Mods.refl Nix w5); have T6 := T39.out _ hM5) | (go_at_call 39; with_reducible refine T6.mono ?_; rintro e w6 ⟨a6, m6, c6, rfl, hM56, hM6, k6⟩; have k5b := cv5.out _ hM56))
  all_goals
    go_wp2_with fail
    go_ret
    exact ⟨rfl, hM6⟩
set_option maxRecDepth 100000 in
set_option maxHeartbeats 4000000 in
theorem f8c (w : World) (hg : GK w) (k : Int) (a : Option Addr) (n0 c : Nat) (l0 : List Int) (hs0 : Sv w 5 1 a n0 c (bv l0)) (hB0 : Byt l0) (i : Int) (hi : 300 < i) (hi2 : ¬ i ≤ 65536) :
    Calls Tryd.prog 8 #[.int .i64 k, .slice a n0 c, .int .i64 i] w fun e w' => e = .returned (.bool true) ∧ Mods Nix w w' := by
  have hs := sv_min hs0 80
  have T24a : ∀ w1, Calls Tryd.prog 24 #[.slice a n0 c, .int .i64 80] w1 fun e w' => e = .returned (.slice a (min n0 80) c) ∧ w1 = w' := fun w1 => f24w w1 a n0 c hs0.le 80 80 rfl (by omega)
  have hn2 := Nat.min_le_right n0 80
  obtain ⟨n, hn⟩ : ∃ n, n = min n0 80 := ⟨_, rfl⟩
  rw [← hn] at hs T24a hn2
  clear hn
  obtain ⟨l, hl⟩ : ∃ l, l = l0.take 80 := ⟨_, rfl⟩
  have hB : Byt l := by rw [hl]; exact hB0.take _
  rw [← hl] at hs
  clear hl
  have hll : l.length = n := by have := hs.len; simpa [bv] using this
  have T38 : Behind w fun w1 => Calls Tryd.prog 38 #[.int .i64 k, .slice a n c, .int .i64 i] w1.drew fun e w' => ∃ a' m' c', e = .returned (.slice a' m' c') ∧ Mods Nix w w' ∧ Cv w' (.slice a' m' c') (strOfNums (mgf0 k l i)) := by
    refine ⟨fun w1 hM => ?_⟩
    refine (f38g _ k a n c l (hs.mods hM.drew (fun _ _ f => f)) hB (lim_small2 (by omega)) (hg.mods hM.drew (fun f => f)) i).mono ?_
    rintro e w' ⟨a', c', rfl, hS⟩
    exact ⟨a', _, c', rfl, hM.drew.trans' hS.mods (fun _ _ f => f), hS.sv.cv⟩
  have T39 : Behind w fun w1 => Calls Tryd.prog 39 #[.int .i64 k, .slice a n c, .int .i64 i] w1 fun e w' => ∃ a' m' c', e = .returned (.slice a' m' c') ∧ Mods Nix w1 w' ∧ Mods Nix w w' ∧ (convert 22 9 (.slice a' m' c')).run Tryd.prog w' = .ok (.string (strOfNums (mgf0 k l i))) w' := by
    refine ⟨fun w1 hM => ?_⟩
    refine (f39g w1 k a n c l (hs.mods hM (fun _ _ f => f)) hB (lim_small2 (by omega)) i).mono ?_
    rintro e w' ⟨a', c', rfl, hS⟩
    exact ⟨a', _, c', rfl, hS.mods, hM.trans' hS.mods (fun _ _ f => f), conv hS.sv⟩
  have T23 := f23 w hg
  clear hs hs0 hB hB0 hll hg hn2
  go_enter Tryd.func8, Tryd.ntmps8
  go_upto_region 5 with (first | (go_at_call 23; with_reducible refine T23.mono ?_; rintro e w1 ⟨rfl, hM1⟩) | (go_at_call 24; with_reducible refine (T24a _).mono ?_; rintro e w' ⟨rfl, rfl⟩))
  have T5 := T38.out _ hM1
  clear T23 T24a T38
  go_region_with (first | (go_at_call 38; with_reducible refine T5.mono ?_; rintro e w5 ⟨a5, m5, c5, rfl, hM5, cv5⟩; have k5 := cv5.out _ (Mods.refl Nix w5); have T6 := T39.out _ hM5) | (go_at_call 39; with_reducible refine T6.mono ?_; rintro e w6 ⟨a6, m6, c6, rfl, hM56, hM6, k6⟩; have k5b := cv5.out _ hM56))
  all_goals
    go_wp2_with fail
    go_ret
    exact ⟨rfl, hM6⟩
theorem f8 (w : World) (hg : GK w) (k : Int) (a : Option Addr) (n0 c : Nat) (l0 : List Int) (hs0 : Sv w 5 1 a n0 c (bv l0)) (hB0 : Byt l0) (i : Int) :
    Calls Tryd.prog 8 #[.int .i64 k, .slice a n0 c, .int .i64 i] w fun e w' => e = .returned (.bool true) ∧ Mods Nix w w' := by
  by_cases hi : 300 < i
  · by_cases hi2 : i ≤ 65536
    · exact f8a w hg k a n0 c l0 hs0 hB0 i hi hi2
    · exact f8c w hg k a n0 c l0 hs0 hB0 i hi hi2
  · exact f8b w hg k a n0 c l0 hs0 hB0 i hi
end Go.Proofs.YtladijfaeieidaaDoor
