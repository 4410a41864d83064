/- The walk of HashAll: it answers true. Condition: the table of constants stands. -/
import Derived.Test.YtladijfaeieidaaDoorE1
import Derived.Test.YtladijfaeieidaaDoorD7
import Derived.Deep.RegionWith
import Derived.Deep.Cut
namespace Go.Proofs.YtladijfaeieidaaDoor
open Go.RowKit

/-- The hash, or nothing. -/
def hash0 (k : Int) (l : List Int) : List Int := if hsz k = 0 then [] else hash k l
theorem hash0_of {k : Int} (hk : Kd k) (l : List Int) : hash0 k l = hash k l := if_neg (by have := hsz_pos hk; omega)
theorem hash0_no {k : Int} (hk : NoKd k) (l : List Int) : hash0 k l = [] := if_pos (hsz_no hk)
theorem sv_nil (w : World) {k : Int} (hk : NoKd k) : SvOut w w none (hsz k) 0 [] := by
  rw [hsz_no hk]
  exact ⟨by simpa [bv] using (Own.none w 5 1).toSv, New.none _, Mods.refl _ _⟩
theorem f25g (w : World) (k : Int) (a : Option Addr) (n c : Nat) (ps : List (List Int)) (hps : Bs w a n c ps) (hl : Lim (ps.flatten.length + 300)) (hg : GK w) :
    Calls Tryd.prog 25 #[.int .i64 k, .slice a n c] w fun e w' => ∃ a' c', e = .returned (.slice a' (hsz k) c') ∧ SvOut w w' a' (hsz k) c' (hash0 k ps.flatten) := by
  rcases kd_or k with hk | hk
  · rw [hash0_of hk]
    exact (f25 w k hk a n c ps hps hl hg).mono (fun e w' ⟨a', c', h1, h2⟩ => ⟨a', c', h1, h2.sv⟩)
  · rw [hash0_no hk]
    refine (f25n w k hk a n c ps hps).mono ?_
    rintro e w' ⟨rfl, hM⟩
    refine ⟨none, 0, by rw [hsz_no hk], ?_, New.none _, hM⟩
    have := (sv_nil w' hk).sv
    exact this
theorem f26g (w : World) (k : Int) (a : Option Addr) (n c : Nat) (l : List Int) (hs : Sv w 5 1 a n c (bv l)) (hl : Lim (n + 300)) (hB : Byt l) :
    Calls Tryd.prog 26 #[.int .i64 k, .slice a n c] w fun e w' => ∃ a' c', e = .returned (.slice a' (hsz k) c') ∧ SvOut w w' a' (hsz k) c' (hash0 k l) := by
  rcases kd_or k with hk | hk
  · rw [hash0_of hk]
    exact (f26 w k hk a n c l hs hl hB).mono (fun e w' ⟨a', c', h1, h2⟩ => ⟨a', c', h1, h2.sv⟩)
  · rw [hash0_no hk]
    refine (f26n w k hk a n c).mono ?_
    rintro e w' ⟨rfl, rfl⟩
    exact ⟨none, 0, by rw [hsz_no hk], sv_nil w hk⟩
theorem f24w (w : World) (a : Option Addr) (n c : Nat) (hc : n ≤ c) (m : Nat) (M : Int) (hM : M = (m : Int)) (hm : m < 1000) :
    Calls Tryd.prog 24 #[.slice a n c, .int .i64 M] w fun e w' => e = .returned (.slice a (min n m) c) ∧ w = w' := by
  subst hM
  by_cases h : m < n
  · rw [Nat.min_eq_right (by omega)]
    have h1 : (m : Int) ≤ c := by omega
    have h2 : (m : Int) < n := by omega
    have h3 : ¬ c = 0 := by omega
    go_enter Tryd.func24, Tryd.ntmps24
    go_wp2_with fail
    go_ret
    exact ⟨rfl, rfl⟩
  · rw [Nat.min_eq_left (by omega)]
    have h2 : ¬ (m : Int) < n := by omega
    go_enter Tryd.func24, Tryd.ntmps24
    go_wp2_with fail
    go_ret
    exact ⟨rfl, rfl⟩
set_option maxRecDepth 100000 in
set_option maxHeartbeats 4000000 in
theorem f3ae (w : World) (hg : GK w) (k : Int) (a : Option Addr) (N c : Nat) (l' : List Int) (hs' : Sv w 5 1 a N c (bv l')) (hB' : Byt l') (hN6 : N ≤ 600) (n : Nat) (hmin : N = min n 600) (hnc : n ≤ c) (i : Int) (hi : i < 0) (hck : c = N) :
    Calls Tryd.prog 3 #[.int .i64 k, .slice a n c, .int .i64 i] w fun e w' => e = .returned (.bool true) ∧ Mods Nix w w' := by
    subst hck
    have hNl : Eqn l'.length c := ⟨by have := hs'.len; simpa [bv] using this⟩
    have hNc := hs'.le
    have T23 := f23 w hg
    have T24 : ∀ w1, Calls Tryd.prog 24 #[.slice a n c, .int .i64 600] w1 fun e w' => e = .returned (.slice a c c) ∧ w1 = w' := by
      intro w1
      have h9 := f24w w1 a n c hnc 600 600 rfl (by omega)
      rw [← hmin] at h9
      exact h9
    clear hmin
    go_enter Tryd.func3, Tryd.ntmps3
    go_upto_region 3 with (first | (go_at_call 23; with_reducible refine T23.mono ?_; rintro e w1 ⟨rfl, hM1⟩) | (go_at_call 24; with_reducible refine (T24 _).mono ?_; rintro e w' ⟨rfl, rfl⟩))
    clear T23 T24

    have hKN : c ≤ c := Nat.le_refl c
    have hKc : c ≤ c := Nat.le_refl c
    have hfl : [l'.take c, l'.drop c].flatten = l' := by simp
    have hK0 : (0 : Int) ≤ c := by omega
    have hK1 : (c : Int) ≤ c := by omega
    have hK2 : (c : Int) ≤ c := by omega
    have T25 : Behind w fun w1 => Calls Tryd.prog 25 #[.int .i64 k, .slice (some ⟨w1.heap.size, 0, none⟩) 2 2] (w1.alloc (.cells #[.slice a c c, .slice a 0 0] 22)).drew fun e w' => ∃ a' c', e = .returned (.slice a' (hsz k) c') ∧ Mods Nix w w' ∧ Cv w' (.slice a' (hsz k) c') (strOfNums (hash0 k l')) := by
      refine ⟨fun w1 hM => ?_⟩
      have hsd := hs'.mods hM.drew (fun _ _ f => f)
      have e1 := hsd.front c hKN
      have e2 := hsd.from c hKN
      rw [bv_take] at e1
      rw [bv_drop, if_pos rfl, Nat.sub_self] at e2
      have hb : Bs (w1.drew.alloc (.cells #[.slice a c c, .slice a 0 0] 22)) (some ⟨w1.drew.heap.size, 0, none⟩) 2 2 [l'.take c, l'.drop c] := bs_two e1 e2 (hB'.take c) (hB'.drop c)
      have hMd := (hM.drew).alloc (.cells #[.slice a c c, .slice a 0 0] 22)
      refine (f25g _ k _ 2 2 _ hb (by rw [hfl]; exact lim_c (by rw [hNl.out]; omega)) (hg.mods hMd (fun f => f))).mono ?_
      rintro e w' ⟨a', c', rfl, hS⟩
      have h9 := hS.sv
      rw [hfl] at h9
      exact ⟨a', c', rfl, hMd.trans' hS.mods (fun _ _ f => f), h9.cv⟩
    have T6 := T25.out _ hM1
    clear hfl
    go_upto_region 5 with (fail)
    go_region_with (first | (go_at_call 25; with_reducible refine T6.mono ?_; rintro e w5 ⟨a5, c5, rfl, hM5, cv5⟩))
    go_wp2_with fail
    have k5 := cv5.out _ ((Mods.refl Nix w5).drew)
    have T26 : Calls Tryd.prog 26 #[.int .i64 k, .slice a c c] w5.drew fun e w' => ∃ a' c', e = .returned (.slice a' (hsz k) c') ∧ Mods Nix w5 w' ∧ Mods Nix w w' ∧ (convert 22 9 (.slice a' (hsz k) c')).run Tryd.prog w' = .ok (.string (strOfNums (hash0 k l'))) w' := by
      refine (f26g w5.drew k a c c l' (hs'.mods hM5.drew (fun _ _ f => f)) (lim_c (by omega)) hB').mono ?_
      rintro e w' ⟨a', c', rfl, hS⟩
      have h9 := (Mods.refl Nix w5).drew.trans' hS.mods (fun _ _ f => f)
      exact ⟨a', c', rfl, h9, hM5.trans' h9 (fun _ _ f => f), conv hS.sv⟩
    clear T25 T6 hs' hB' hNl hg hM1 hM5 hK0 hK1 hK2 hKN hKc
    go_region_with (first | (go_at_call 26; with_reducible refine T26.mono ?_; rintro e w6 ⟨a6, c6, rfl, hM56, hM6, k6⟩; have k5b := cv5.out _ hM56) | (go_at_call 27; with_reducible refine (f27 k _).mono ?_; rintro e w7 ⟨rfl, rfl⟩) | (go_at_call 28; with_reducible refine (f28 k _).mono ?_; rintro e w7 ⟨rfl, rfl⟩) | (go_at_call 29; with_reducible refine (f29 k _).mono ?_; rintro e w7 ⟨rfl, rfl⟩) | (go_at_call 30; with_reducible refine (f30 k _).mono ?_; rintro e w7 ⟨rfl, rfl⟩))
    all_goals
      go_wp2_with fail
      go_ret
      exact ⟨rfl, hM6⟩
set_option maxRecDepth 100000 in
set_option maxHeartbeats 4000000 in
theorem f3an (w : World) (hg : GK w) (k : Int) (a : Option Addr) (N c : Nat) (l' : List Int) (hs' : Sv w 5 1 a N c (bv l')) (hB' : Byt l') (hN6 : N ≤ 600) (n : Nat) (hmin : N = min n 600) (hnc : n ≤ c) (i : Int) (hi : i < 0) (hck : ¬ c = N) :
    Calls Tryd.prog 3 #[.int .i64 k, .slice a n c, .int .i64 i] w fun e w' => e = .returned (.bool true) ∧ Mods Nix w w' := by
    have hNl : Eqn l'.length N := ⟨by have := hs'.len; simpa [bv] using this⟩
    have hNc := hs'.le
    have T23 := f23 w hg
    have T24 : ∀ w1, Calls Tryd.prog 24 #[.slice a n c, .int .i64 600] w1 fun e w' => e = .returned (.slice a N c) ∧ w1 = w' := by
      intro w1
      have h9 := f24w w1 a n c hnc 600 600 rfl (by omega)
      rw [← hmin] at h9
      exact h9
    clear hmin
    go_enter Tryd.func3, Tryd.ntmps3
    go_upto_region 3 with (first | (go_at_call 23; with_reducible refine T23.mono ?_; rintro e w1 ⟨rfl, hM1⟩) | (go_at_call 24; with_reducible refine (T24 _).mono ?_; rintro e w' ⟨rfl, rfl⟩))
    clear T23 T24

    have hKN : N ≤ N := Nat.le_refl N
    have hKc : N ≤ c := by omega
    have hfl : [l'.take N, l'.drop N].flatten = l' := by simp
    have hK0 : (0 : Int) ≤ N := by omega
    have hK1 : (N : Int) ≤ N := by omega
    have hK2 : (N : Int) ≤ c := by omega
    have T25 : Behind w fun w1 => Calls Tryd.prog 25 #[.int .i64 k, .slice (some ⟨w1.heap.size, 0, none⟩) 2 2] (w1.alloc (.cells #[.slice a N c, .slice (Option.map (fun x => x.add N) a) 0 (c - N)] 22)).drew fun e w' => ∃ a' c', e = .returned (.slice a' (hsz k) c') ∧ Mods Nix w w' ∧ Cv w' (.slice a' (hsz k) c') (strOfNums (hash0 k l')) := by
      refine ⟨fun w1 hM => ?_⟩
      have hsd := hs'.mods hM.drew (fun _ _ f => f)
      have e1 := hsd.front N hKN
      have e2 := hsd.from N hKN
      rw [bv_take] at e1
      rw [bv_drop, if_neg hck, Nat.sub_self] at e2
      have hb : Bs (w1.drew.alloc (.cells #[.slice a N c, .slice (Option.map (fun x => x.add N) a) 0 (c - N)] 22)) (some ⟨w1.drew.heap.size, 0, none⟩) 2 2 [l'.take N, l'.drop N] := bs_two e1 e2 (hB'.take N) (hB'.drop N)
      have hMd := (hM.drew).alloc (.cells #[.slice a N c, .slice (Option.map (fun x => x.add N) a) 0 (c - N)] 22)
      refine (f25g _ k _ 2 2 _ hb (by rw [hfl]; exact lim_c (by rw [hNl.out]; omega)) (hg.mods hMd (fun f => f))).mono ?_
      rintro e w' ⟨a', c', rfl, hS⟩
      have h9 := hS.sv
      rw [hfl] at h9
      exact ⟨a', c', rfl, hMd.trans' hS.mods (fun _ _ f => f), h9.cv⟩
    have T6 := T25.out _ hM1
    clear hfl
    go_upto_region 5 with (fail)
    go_region_with (first | (go_at_call 25; with_reducible refine T6.mono ?_; rintro e w5 ⟨a5, c5, rfl, hM5, cv5⟩))
    go_wp2_with fail
    have k5 := cv5.out _ ((Mods.refl Nix w5).drew)
    have T26 : Calls Tryd.prog 26 #[.int .i64 k, .slice a N c] w5.drew fun e w' => ∃ a' c', e = .returned (.slice a' (hsz k) c') ∧ Mods Nix w5 w' ∧ Mods Nix w w' ∧ (convert 22 9 (.slice a' (hsz k) c')).run Tryd.prog w' = .ok (.string (strOfNums (hash0 k l'))) w' := by
      refine (f26g w5.drew k a N c l' (hs'.mods hM5.drew (fun _ _ f => f)) (lim_c (by omega)) hB').mono ?_
      rintro e w' ⟨a', c', rfl, hS⟩
      have h9 := (Mods.refl Nix w5).drew.trans' hS.mods (fun _ _ f => f)
      exact ⟨a', c', rfl, h9, hM5.trans' h9 (fun _ _ f => f), conv hS.sv⟩
    clear T25 T6 hs' hB' hNl hg hM1 hM5 hK0 hK1 hK2 hKN hKc
    go_region_with (first | (go_at_call 26; with_reducible refine T26.mono ?_; rintro e w6 ⟨a6, c6, rfl, hM56, hM6, k6⟩; have k5b := cv5.out _ hM56) | (go_at_call 27; with_reducible refine (f27 k _).mono ?_; rintro e w7 ⟨rfl, rfl⟩) | (go_at_call 28; with_reducible refine (f28 k _).mono ?_; rintro e w7 ⟨rfl, rfl⟩) | (go_at_call 29; with_reducible refine (f29 k _).mono ?_; rintro e w7 ⟨rfl, rfl⟩) | (go_at_call 30; with_reducible refine (f30 k _).mono ?_; rintro e w7 ⟨rfl, rfl⟩))
    all_goals
      go_wp2_with fail
      go_ret
      exact ⟨rfl, hM6⟩
set_option maxRecDepth 100000 in
set_option maxHeartbeats 4000000 in
theorem f3be (w : World) (hg : GK w) (k : Int) (a : Option Addr) (N c : Nat) (l' : List Int) (hs' : Sv w 5 1 a N c (bv l')) (hB' : Byt l') (hN6 : N ≤ 600) (n : Nat) (hmin : N = min n 600) (hnc : n ≤ c) (i : Int) (hi0 : ¬ i < 0) (hi : (N : Int) < i) (hck : c = N) :
    Calls Tryd.prog 3 #[.int .i64 k, .slice a n c, .int .i64 i] w fun e w' => e = .returned (.bool true) ∧ Mods Nix w w' := by
    subst hck
    have hNl : Eqn l'.length c := ⟨by have := hs'.len; simpa [bv] using this⟩
    have hNc := hs'.le
    have T23 := f23 w hg
    have T24 : ∀ w1, Calls Tryd.prog 24 #[.slice a n c, .int .i64 600] w1 fun e w' => e = .returned (.slice a c c) ∧ w1 = w' := by
      intro w1
      have h9 := f24w w1 a n c hnc 600 600 rfl (by omega)
      rw [← hmin] at h9
      exact h9
    clear hmin
    go_enter Tryd.func3, Tryd.ntmps3
    go_upto_region 3 with (first | (go_at_call 23; with_reducible refine T23.mono ?_; rintro e w1 ⟨rfl, hM1⟩) | (go_at_call 24; with_reducible refine (T24 _).mono ?_; rintro e w' ⟨rfl, rfl⟩))
    clear T23 T24

    have hKN : c ≤ c := Nat.le_refl c
    have hKc : c ≤ c := Nat.le_refl c
    have hfl : [l'.take c, l'.drop c].flatten = l' := by simp
    have hK0 : (0 : Int) ≤ c := by omega
    have hK1 : (c : Int) ≤ c := by omega
    have hK2 : (c : Int) ≤ c := by omega
    have T25 : Behind w fun w1 => Calls Tryd.prog 25 #[.int .i64 k, .slice (some ⟨w1.heap.size, 0, none⟩) 2 2] (w1.alloc (.cells #[.slice a c c, .slice a 0 0] 22)).drew fun e w' => ∃ a' c', e = .returned (.slice a' (hsz k) c') ∧ Mods Nix w w' ∧ Cv w' (.slice a' (hsz k) c') (strOfNums (hash0 k l')) := by
      refine ⟨fun w1 hM => ?_⟩
      have hsd := hs'.mods hM.drew (fun _ _ f => f)
      have e1 := hsd.front c hKN
      have e2 := hsd.from c hKN
      rw [bv_take] at e1
      rw [bv_drop, if_pos rfl, Nat.sub_self] at e2
      have hb : Bs (w1.drew.alloc (.cells #[.slice a c c, .slice a 0 0] 22)) (some ⟨w1.drew.heap.size, 0, none⟩) 2 2 [l'.take c, l'.drop c] := bs_two e1 e2 (hB'.take c) (hB'.drop c)
      have hMd := (hM.drew).alloc (.cells #[.slice a c c, .slice a 0 0] 22)
      refine (f25g _ k _ 2 2 _ hb (by rw [hfl]; exact lim_c (by rw [hNl.out]; omega)) (hg.mods hMd (fun f => f))).mono ?_
      rintro e w' ⟨a', c', rfl, hS⟩
      have h9 := hS.sv
      rw [hfl] at h9
      exact ⟨a', c', rfl, hMd.trans' hS.mods (fun _ _ f => f), h9.cv⟩
    have T6 := T25.out _ hM1
    clear hfl
    go_upto_region 5 with (fail)
    go_region_with (first | (go_at_call 25; with_reducible refine T6.mono ?_; rintro e w5 ⟨a5, c5, rfl, hM5, cv5⟩))
    go_wp2_with fail
    have k5 := cv5.out _ ((Mods.refl Nix w5).drew)
    have T26 : Calls Tryd.prog 26 #[.int .i64 k, .slice a c c] w5.drew fun e w' => ∃ a' c', e = .returned (.slice a' (hsz k) c') ∧ Mods Nix w5 w' ∧ Mods Nix w w' ∧ (convert 22 9 (.slice a' (hsz k) c')).run Tryd.prog w' = .ok (.string (strOfNums (hash0 k l'))) w' := by
      refine (f26g w5.drew k a c c l' (hs'.mods hM5.drew (fun _ _ f => f)) (lim_c (by omega)) hB').mono ?_
      rintro e w' ⟨a', c', rfl, hS⟩
      have h9 := (Mods.refl Nix w5).drew.trans' hS.mods (fun _ _ f => f)
      exact ⟨a', c', rfl, h9, hM5.trans' h9 (fun _ _ f => f), conv hS.sv⟩
    clear T25 T6 hs' hB' hNl hg hM1 hM5 hK0 hK1 hK2 hKN hKc
    go_region_with (first | (go_at_call 26; with_reducible refine T26.mono ?_; rintro e w6 ⟨a6, c6, rfl, hM56, hM6, k6⟩; have k5b := cv5.out _ hM56) | (go_at_call 27; with_reducible refine (f27 k _).mono ?_; rintro e w7 ⟨rfl, rfl⟩) | (go_at_call 28; with_reducible refine (f28 k _).mono ?_; rintro e w7 ⟨rfl, rfl⟩) | (go_at_call 29; with_reducible refine (f29 k _).mono ?_; rintro e w7 ⟨rfl, rfl⟩) | (go_at_call 30; with_reducible refine (f30 k _).mono ?_; rintro e w7 ⟨rfl, rfl⟩))
    all_goals
      go_wp2_with fail
      go_ret
      exact ⟨rfl, hM6⟩
set_option maxRecDepth 100000 in
set_option maxHeartbeats 4000000 in
theorem f3bn (w : World) (hg : GK w) (k : Int) (a : Option Addr) (N c : Nat) (l' : List Int) (hs' : Sv w 5 1 a N c (bv l')) (hB' : Byt l') (hN6 : N ≤ 600) (n : Nat) (hmin : N = min n 600) (hnc : n ≤ c) (i : Int) (hi0 : ¬ i < 0) (hi : (N : Int) < i) (hck : ¬ c = N) :
    Calls Tryd.prog 3 #[.int .i64 k, .slice a n c, .int .i64 i] w fun e w' => e = .returned (.bool true) ∧ Mods Nix w w' := by
    have hNl : Eqn l'.length N := ⟨by have := hs'.len; simpa [bv] using this⟩
    have hNc := hs'.le
    have T23 := f23 w hg
    have T24 : ∀ w1, Calls Tryd.prog 24 #[.slice a n c, .int .i64 600] w1 fun e w' => e = .returned (.slice a N c) ∧ w1 = w' := by
      intro w1
      have h9 := f24w w1 a n c hnc 600 600 rfl (by omega)
      rw [← hmin] at h9
      exact h9
    clear hmin
    go_enter Tryd.func3, Tryd.ntmps3
    go_upto_region 3 with (first | (go_at_call 23; with_reducible refine T23.mono ?_; rintro e w1 ⟨rfl, hM1⟩) | (go_at_call 24; with_reducible refine (T24 _).mono ?_; rintro e w' ⟨rfl, rfl⟩))
    clear T23 T24

    have hKN : N ≤ N := Nat.le_refl N
    have hKc : N ≤ c := by omega
    have hfl : [l'.take N, l'.drop N].flatten = l' := by simp
    have hK0 : (0 : Int) ≤ N := by omega
    have hK1 : (N : Int) ≤ N := by omega
    have hK2 : (N : Int) ≤ c := by omega
    have T25 : Behind w fun w1 => Calls Tryd.prog 25 #[.int .i64 k, .slice (some ⟨w1.heap.size, 0, none⟩) 2 2] (w1.alloc (.cells #[.slice a N c, .slice (Option.map (fun x => x.add N) a) 0 (c - N)] 22)).drew fun e w' => ∃ a' c', e = .returned (.slice a' (hsz k) c') ∧ Mods Nix w w' ∧ Cv w' (.slice a' (hsz k) c') (strOfNums (hash0 k l')) := by
      refine ⟨fun w1 hM => ?_⟩
      have hsd := hs'.mods hM.drew (fun _ _ f => f)
      have e1 := hsd.front N hKN
      have e2 := hsd.from N hKN
      rw [bv_take] at e1
      rw [bv_drop, if_neg hck, Nat.sub_self] at e2
      have hb : Bs (w1.drew.alloc (.cells #[.slice a N c, .slice (Option.map (fun x => x.add N) a) 0 (c - N)] 22)) (some ⟨w1.drew.heap.size, 0, none⟩) 2 2 [l'.take N, l'.drop N] := bs_two e1 e2 (hB'.take N) (hB'.drop N)
      have hMd := (hM.drew).alloc (.cells #[.slice a N c, .slice (Option.map (fun x => x.add N) a) 0 (c - N)] 22)
      refine (f25g _ k _ 2 2 _ hb (by rw [hfl]; exact lim_c (by rw [hNl.out]; omega)) (hg.mods hMd (fun f => f))).mono ?_
      rintro e w' ⟨a', c', rfl, hS⟩
      have h9 := hS.sv
      rw [hfl] at h9
      exact ⟨a', c', rfl, hMd.trans' hS.mods (fun _ _ f => f), h9.cv⟩
    have T6 := T25.out _ hM1
    clear hfl
    go_upto_region 5 with (fail)
    go_region_with (first | (go_at_call 25; with_reducible refine T6.mono ?_; rintro e w5 ⟨a5, c5, rfl, hM5, cv5⟩))
    go_wp2_with fail
    have k5 := cv5.out _ ((Mods.refl Nix w5).drew)
    have T26 : Calls Tryd.prog 26 #[.int .i64 k, .slice a N c] w5.drew fun e w' => ∃ a' c', e = .returned (.slice a' (hsz k) c') ∧ Mods Nix w5 w' ∧ Mods Nix w w' ∧ (convert 22 9 (.slice a' (hsz k) c')).run Tryd.prog w' = .ok (.string (strOfNums (hash0 k l'))) w' := by
      refine (f26g w5.drew k a N c l' (hs'.mods hM5.drew (fun _ _ f => f)) (lim_c (by omega)) hB').mono ?_
      rintro e w' ⟨a', c', rfl, hS⟩
      have h9 := (Mods.refl Nix w5).drew.trans' hS.mods (fun _ _ f => f)
      exact ⟨a', c', rfl, h9, hM5.trans' h9 (fun _ _ f => f), conv hS.sv⟩
    clear T25 T6 hs' hB' hNl hg hM1 hM5 hK0 hK1 hK2 hKN hKc
    go_region_with (first | (go_at_call 26; with_reducible refine T26.mono ?_; rintro e w6 ⟨a6, c6, rfl, hM56, hM6, k6⟩; have k5b := cv5.out _ hM56) | (go_at_call 27; with_reducible refine (f27 k _).mono ?_; rintro e w7 ⟨rfl, rfl⟩) | (go_at_call 28; with_reducible refine (f28 k _).mono ?_; rintro e w7 ⟨rfl, rfl⟩) | (go_at_call 29; with_reducible refine (f29 k _).mono ?_; rintro e w7 ⟨rfl, rfl⟩) | (go_at_call 30; with_reducible refine (f30 k _).mono ?_; rintro e w7 ⟨rfl, rfl⟩))
    all_goals
      go_wp2_with fail
      go_ret
      exact ⟨rfl, hM6⟩
set_option maxRecDepth 100000 in
set_option maxHeartbeats 4000000 in
theorem f3ce (w : World) (hg : GK w) (k : Int) (a : Option Addr) (N c : Nat) (l' : List Int) (hs' : Sv w 5 1 a N c (bv l')) (hB' : Byt l') (hN6 : N ≤ 600) (n : Nat) (hmin : N = min n 600) (hnc : n ≤ c) (K : Nat) (hi0 : ¬ (K : Int) < 0) (hi : ¬ (N : Int) < K) (hKN0 : K = N) (hck : c = N) :
    Calls Tryd.prog 3 #[.int .i64 k, .slice a n c, .int .i64 (K : Int)] w fun e w' => e = .returned (.bool true) ∧ Mods Nix w w' := by
    subst hKN0
    subst hck
    have hNl : Eqn l'.length c := ⟨by have := hs'.len; simpa [bv] using this⟩
    have hNc := hs'.le
    have T23 := f23 w hg
    have T24 : ∀ w1, Calls Tryd.prog 24 #[.slice a n c, .int .i64 600] w1 fun e w' => e = .returned (.slice a c c) ∧ w1 = w' := by
      intro w1
      have h9 := f24w w1 a n c hnc 600 600 rfl (by omega)
      rw [← hmin] at h9
      exact h9
    clear hmin
    go_enter Tryd.func3, Tryd.ntmps3
    go_upto_region 3 with (first | (go_at_call 23; with_reducible refine T23.mono ?_; rintro e w1 ⟨rfl, hM1⟩) | (go_at_call 24; with_reducible refine (T24 _).mono ?_; rintro e w' ⟨rfl, rfl⟩))
    clear T23 T24

    have hKN : c ≤ c := Nat.le_refl c
    have hKc : c ≤ c := Nat.le_refl c
    have hfl : [l'.take c, l'.drop c].flatten = l' := by simp
    have hK0 : (0 : Int) ≤ c := by omega
    have hK1 : (c : Int) ≤ c := by omega
    have hK2 : (c : Int) ≤ c := by omega
    have T25 : Behind w fun w1 => Calls Tryd.prog 25 #[.int .i64 k, .slice (some ⟨w1.heap.size, 0, none⟩) 2 2] (w1.alloc (.cells #[.slice a c c, .slice a 0 0] 22)).drew fun e w' => ∃ a' c', e = .returned (.slice a' (hsz k) c') ∧ Mods Nix w w' ∧ Cv w' (.slice a' (hsz k) c') (strOfNums (hash0 k l')) := by
      refine ⟨fun w1 hM => ?_⟩
      have hsd := hs'.mods hM.drew (fun _ _ f => f)
      have e1 := hsd.front c hKN
      have e2 := hsd.from c hKN
      rw [bv_take] at e1
      rw [bv_drop, if_pos rfl, Nat.sub_self] at e2
      have hb : Bs (w1.drew.alloc (.cells #[.slice a c c, .slice a 0 0] 22)) (some ⟨w1.drew.heap.size, 0, none⟩) 2 2 [l'.take c, l'.drop c] := bs_two e1 e2 (hB'.take c) (hB'.drop c)
      have hMd := (hM.drew).alloc (.cells #[.slice a c c, .slice a 0 0] 22)
      refine (f25g _ k _ 2 2 _ hb (by rw [hfl]; exact lim_c (by rw [hNl.out]; omega)) (hg.mods hMd (fun f => f))).mono ?_
      rintro e w' ⟨a', c', rfl, hS⟩
      have h9 := hS.sv
      rw [hfl] at h9
      exact ⟨a', c', rfl, hMd.trans' hS.mods (fun _ _ f => f), h9.cv⟩
    have T6 := T25.out _ hM1
    clear hfl
    go_upto_region 5 with (fail)
    go_region_with (first | (go_at_call 25; with_reducible refine T6.mono ?_; rintro e w5 ⟨a5, c5, rfl, hM5, cv5⟩))
    go_wp2_with fail
    have k5 := cv5.out _ ((Mods.refl Nix w5).drew)
    have T26 : Calls Tryd.prog 26 #[.int .i64 k, .slice a c c] w5.drew fun e w' => ∃ a' c', e = .returned (.slice a' (hsz k) c') ∧ Mods Nix w5 w' ∧ Mods Nix w w' ∧ (convert 22 9 (.slice a' (hsz k) c')).run Tryd.prog w' = .ok (.string (strOfNums (hash0 k l'))) w' := by
      refine (f26g w5.drew k a c c l' (hs'.mods hM5.drew (fun _ _ f => f)) (lim_c (by omega)) hB').mono ?_
      rintro e w' ⟨a', c', rfl, hS⟩
      have h9 := (Mods.refl Nix w5).drew.trans' hS.mods (fun _ _ f => f)
      exact ⟨a', c', rfl, h9, hM5.trans' h9 (fun _ _ f => f), conv hS.sv⟩
    clear T25 T6 hs' hB' hNl hg hM1 hM5 hK0 hK1 hK2 hKN hKc
    go_region_with (first | (go_at_call 26; with_reducible refine T26.mono ?_; rintro e w6 ⟨a6, c6, rfl, hM56, hM6, k6⟩; have k5b := cv5.out _ hM56) | (go_at_call 27; with_reducible refine (f27 k _).mono ?_; rintro e w7 ⟨rfl, rfl⟩) | (go_at_call 28; with_reducible refine (f28 k _).mono ?_; rintro e w7 ⟨rfl, rfl⟩) | (go_at_call 29; with_reducible refine (f29 k _).mono ?_; rintro e w7 ⟨rfl, rfl⟩) | (go_at_call 30; with_reducible refine (f30 k _).mono ?_; rintro e w7 ⟨rfl, rfl⟩))
    all_goals
      go_wp2_with fail
      go_ret
      exact ⟨rfl, hM6⟩
set_option maxRecDepth 100000 in
set_option maxHeartbeats 4000000 in
theorem f3cn (w : World) (hg : GK w) (k : Int) (a : Option Addr) (N c : Nat) (l' : List Int) (hs' : Sv w 5 1 a N c (bv l')) (hB' : Byt l') (hN6 : N ≤ 600) (n : Nat) (hmin : N = min n 600) (hnc : n ≤ c) (K : Nat) (hi0 : ¬ (K : Int) < 0) (hi : ¬ (N : Int) < K) (hck : ¬ c = K) :
    Calls Tryd.prog 3 #[.int .i64 k, .slice a n c, .int .i64 (K : Int)] w fun e w' => e = .returned (.bool true) ∧ Mods Nix w w' := by
    have hNl : Eqn l'.length N := ⟨by have := hs'.len; simpa [bv] using this⟩
    have hNc := hs'.le
    have T23 := f23 w hg
    have T24 : ∀ w1, Calls Tryd.prog 24 #[.slice a n c, .int .i64 600] w1 fun e w' => e = .returned (.slice a N c) ∧ w1 = w' := by
      intro w1
      have h9 := f24w w1 a n c hnc 600 600 rfl (by omega)
      rw [← hmin] at h9
      exact h9
    clear hmin
    go_enter Tryd.func3, Tryd.ntmps3
    go_upto_region 3 with (first | (go_at_call 23; with_reducible refine T23.mono ?_; rintro e w1 ⟨rfl, hM1⟩) | (go_at_call 24; with_reducible refine (T24 _).mono ?_; rintro e w' ⟨rfl, rfl⟩))
    clear T23 T24

    have hKN : K ≤ N := by omega
    have hKc : K ≤ c := by omega
    have hfl : [l'.take K, l'.drop K].flatten = l' := by simp
    have hK0 : (0 : Int) ≤ K := by omega
    have hK1 : (K : Int) ≤ N := by omega
    have hK2 : (K : Int) ≤ c := by omega
    have T25 : Behind w fun w1 => Calls Tryd.prog 25 #[.int .i64 k, .slice (some ⟨w1.heap.size, 0, none⟩) 2 2] (w1.alloc (.cells #[.slice a K c, .slice (Option.map (fun x => x.add K) a) (N - K) (c - K)] 22)).drew fun e w' => ∃ a' c', e = .returned (.slice a' (hsz k) c') ∧ Mods Nix w w' ∧ Cv w' (.slice a' (hsz k) c') (strOfNums (hash0 k l')) := by
      refine ⟨fun w1 hM => ?_⟩
      have hsd := hs'.mods hM.drew (fun _ _ f => f)
      have e1 := hsd.front K hKN
      have e2 := hsd.from K hKN
      rw [bv_take] at e1
      rw [bv_drop, if_neg hck] at e2
      have hb : Bs (w1.drew.alloc (.cells #[.slice a K c, .slice (Option.map (fun x => x.add K) a) (N - K) (c - K)] 22)) (some ⟨w1.drew.heap.size, 0, none⟩) 2 2 [l'.take K, l'.drop K] := bs_two e1 e2 (hB'.take K) (hB'.drop K)
      have hMd := (hM.drew).alloc (.cells #[.slice a K c, .slice (Option.map (fun x => x.add K) a) (N - K) (c - K)] 22)
      refine (f25g _ k _ 2 2 _ hb (by rw [hfl]; exact lim_c (by rw [hNl.out]; omega)) (hg.mods hMd (fun f => f))).mono ?_
      rintro e w' ⟨a', c', rfl, hS⟩
      have h9 := hS.sv
      rw [hfl] at h9
      exact ⟨a', c', rfl, hMd.trans' hS.mods (fun _ _ f => f), h9.cv⟩
    have T6 := T25.out _ hM1
    clear hfl
    go_upto_region 5 with (fail)
    go_region_with (first | (go_at_call 25; with_reducible refine T6.mono ?_; rintro e w5 ⟨a5, c5, rfl, hM5, cv5⟩))
    go_wp2_with fail
    have k5 := cv5.out _ ((Mods.refl Nix w5).drew)
    have T26 : Calls Tryd.prog 26 #[.int .i64 k, .slice a N c] w5.drew fun e w' => ∃ a' c', e = .returned (.slice a' (hsz k) c') ∧ Mods Nix w5 w' ∧ Mods Nix w w' ∧ (convert 22 9 (.slice a' (hsz k) c')).run Tryd.prog w' = .ok (.string (strOfNums (hash0 k l'))) w' := by
      refine (f26g w5.drew k a N c l' (hs'.mods hM5.drew (fun _ _ f => f)) (lim_c (by omega)) hB').mono ?_
      rintro e w' ⟨a', c', rfl, hS⟩
      have h9 := (Mods.refl Nix w5).drew.trans' hS.mods (fun _ _ f => f)
      exact ⟨a', c', rfl, h9, hM5.trans' h9 (fun _ _ f => f), conv hS.sv⟩
    clear T25 T6 hs' hB' hNl hg hM1 hM5 hK0 hK1 hK2 hKN hKc
    go_region_with (first | (go_at_call 26; with_reducible refine T26.mono ?_; rintro e w6 ⟨a6, c6, rfl, hM56, hM6, k6⟩; have k5b := cv5.out _ hM56) | (go_at_call 27; with_reducible refine (f27 k _).mono ?_; rintro e w7 ⟨rfl, rfl⟩) | (go_at_call 28; with_reducible refine (f28 k _).mono ?_; rintro e w7 ⟨rfl, rfl⟩) | (go_at_call 29; with_reducible refine (f29 k _).mono ?_; rintro e w7 ⟨rfl, rfl⟩) | (go_at_call 30; with_reducible refine (f30 k _).mono ?_; rintro e w7 ⟨rfl, rfl⟩))
    all_goals
      go_wp2_with fail
      go_ret
      exact ⟨rfl, hM6⟩
theorem f3 (w : World) (hg : GK w) (k : Int) (a : Option Addr) (n c : Nat) (l : List Int) (hs : Sv w 5 1 a n c (bv l)) (hB : Byt l) (i : Int) :
    Calls Tryd.prog 3 #[.int .i64 k, .slice a n c, .int .i64 i] w fun e w' => e = .returned (.bool true) ∧ Mods Nix w w' := by
  have h6 := Nat.min_le_right n 600
  have hs' := sv_min hs 600
  have hnc := hs.le
  have hmn := Nat.min_le_left n 600
  by_cases h0 : i < 0
  · by_cases hc : c = min n 600
    · exact f3ae w hg k a _ c _ hs' (hB.take 600) h6 n rfl hnc i h0 hc
    · exact f3an w hg k a _ c _ hs' (hB.take 600) h6 n rfl hnc i h0 hc
  by_cases h1 : ((min n 600 : Nat) : Int) < i
  · by_cases hc : c = min n 600
    · exact f3be w hg k a _ c _ hs' (hB.take 600) h6 n rfl hnc i h0 h1 hc
    · exact f3bn w hg k a _ c _ hs' (hB.take 600) h6 n rfl hnc i h0 h1 hc
  · obtain ⟨K, rfl⟩ := Int.eq_ofNat_of_zero_le (show 0 ≤ i by omega)
    by_cases hc : c = K
    · exact f3ce w hg k a _ c _ hs' (hB.take 600) h6 n rfl hnc K h0 h1 (by omega) (by omega)
    · exact f3cn w hg k a _ c _ hs' (hB.take 600) h6 n rfl hnc K h0 h1 hc
end Go.Proofs.YtladijfaeieidaaDoor
