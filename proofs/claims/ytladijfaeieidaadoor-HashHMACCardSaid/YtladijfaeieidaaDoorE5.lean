/- The walk of HashHMAC: it answers true. Condition: the table of constants stands. -/
import Derived.Test.YtladijfaeieidaaDoorE2
import Derived.Test.YtladijfaeieidaaDoorD9
import Derived.Deep.RegionWith
import Derived.Deep.Cut
namespace Go.Proofs.YtladijfaeieidaaDoor
open Go.RowKit

/-- The keyed hash, or nothing. -/
def hmac0 (k : Int) (l m : List Int) : List Int := if hsz k = 0 then [] else hmac k l m
theorem hmac0_of {k : Int} (hk : Kd k) (l m : List Int) : hmac0 k l m = hmac k l m := if_neg (by have := hsz_pos hk; omega)
theorem hmac0_no {k : Int} (hk : NoKd k) (l m : List Int) : hmac0 k l m = [] := if_pos (hsz_no hk)
theorem f35g (w : World) (k : Int) (x : Option Addr) (n c : Nat) (l : List Int) (h : KeyIn w x n c l) (a : Option Addr) (pn pc : Nat) (ps : List (List Int)) (hps : Bs w a pn pc ps)
    (hl : Lim (ps.flatten.length + 600)) (hg : GK w) :
    Calls Tryd.prog 35 #[.int .i64 k, .slice x n c, .slice a pn pc] w fun e w' => ∃ a' c', e = .returned (.slice a' (hsz k) c') ∧ SvOut w w' a' (hsz k) c' (hmac0 k l ps.flatten) := by
  rcases kd_or k with hk | hk
  · rw [hmac0_of hk]
    exact (f35 w k hk x n c l h a pn pc ps hps hl hg).mono (fun e w' ⟨a', c', h1, h2⟩ => ⟨a', c', h1, h2.sv⟩)
  · rw [hmac0_no hk]
    refine (f35n w k hk x n c a pn pc).mono ?_
    rintro e w' ⟨rfl, rfl⟩
    exact ⟨none, 0, by rw [hsz_no hk], sv_nil w hk⟩
theorem f36g (w : World) (k : Int) (x : Option Addr) (n c : Nat) (l : List Int) (h : KeyIn w x n c l) (y : Option Addr) (nb cb : Nat) (m : List Int) (hy : Sv w 5 1 y nb cb (bv m)) (hmB : Byt m) (hml : Lim (nb + 700)) :
    Calls Tryd.prog 36 #[.int .i64 k, .slice x n c, .slice y nb cb] w fun e w' => ∃ a' c', e = .returned (.slice a' (hsz k) c') ∧ SvOut w w' a' (hsz k) c' (hmac0 k l m) := by
  rcases kd_or k with hk | hk
  · rw [hmac0_of hk]
    exact (f36 w k hk x n c l h y nb cb m hy hmB hml).mono (fun e w' ⟨a', c', h1, h2⟩ => ⟨a', c', h1, h2.sv⟩)
  · rw [hmac0_no hk]
    refine (f36n w k hk x n c y nb cb).mono ?_
    rintro e w' ⟨rfl, rfl⟩
    exact ⟨none, 0, by rw [hsz_no hk], sv_nil w hk⟩
set_option maxRecDepth 100000 in
set_option maxHeartbeats 4000000 in
theorem f5 (w : World) (hg : GK w) (k : Int) (a : Option Addr) (n0 c : Nat) (l0 : List Int) (hs0 : Sv w 5 1 a n0 c (bv l0)) (hB0 : Byt l0) (y : Option Addr) (m0 d : Nat) (r0 : List Int) (hr0 : Sv w 5 1 y m0 d (bv r0)) (hR0 : Byt r0) :
    Calls Tryd.prog 5 #[.int .i64 k, .slice a n0 c, .slice y m0 d] w fun e w' => e = .returned (.bool true) ∧ Mods Nix w w' := by
  have hs := sv_min hs0 200
  have hr := sv_min hr0 200
  have T24a : ∀ w1, Calls Tryd.prog 24 #[.slice a n0 c, .int .i64 200] w1 fun e w' => e = .returned (.slice a (min n0 200) c) ∧ w1 = w' := fun w1 => f24w w1 a n0 c hs0.le 200 200 rfl (by omega)
  have T24b : ∀ w1, Calls Tryd.prog 24 #[.slice y m0 d, .int .i64 200] w1 fun e w' => e = .returned (.slice y (min m0 200) d) ∧ w1 = w' := fun w1 => f24w w1 y m0 d hr0.le 200 200 rfl (by omega)
  have hn2 := Nat.min_le_right n0 200
  have hm2 := Nat.min_le_right m0 200
  obtain ⟨n, hn⟩ : ∃ n, n = min n0 200 := ⟨_, rfl⟩
  obtain ⟨m, hm⟩ : ∃ m, m = min m0 200 := ⟨_, rfl⟩
  rw [← hn] at hs T24a hn2
  rw [← hm] at hr T24b hm2
  clear hn hm
  obtain ⟨l, hl⟩ : ∃ l, l = l0.take 200 := ⟨_, rfl⟩
  obtain ⟨r, hrr⟩ : ∃ r, r = r0.take 200 := ⟨_, rfl⟩
  have hB : Byt l := by rw [hl]; exact hB0.take _
  have hR : Byt r := by rw [hrr]; exact hR0.take _
  rw [← hl] at hs
  rw [← hrr] at hr
  clear hl hrr
  have hll : l.length = n := by have := hs.len; simpa [bv] using this
  have hrl : r.length = m := by have := hr.len; simpa [bv] using this
  have T35 : Behind w fun w1 => Calls Tryd.prog 35 #[.int .i64 k, .slice a n c, .slice (some ⟨w1.heap.size, 0, none⟩) 1 1] (w1.alloc (.cells #[.slice y m d] 22)).drew fun e w' => ∃ a' c', e = .returned (.slice a' (hsz k) c') ∧ Mods Nix w w' ∧ Cv w' (.slice a' (hsz k) c') (strOfNums (hmac0 k l r)) := by
    refine ⟨fun w1 hM => ?_⟩
    have hb := bs_one hM.drew ⟨hr, hR, lim_c (by omega)⟩
    have hMd := (hM.drew).alloc (.cells #[.slice y m d] 22)
    refine (f35g _ k a n c l ⟨hs.mods hMd (fun _ _ f => f), hB, lim_c (by omega)⟩ _ 1 1 [r] hb (lim_c (by simp; omega)) (hg.mods hMd (fun f => f))).mono ?_
    rintro e w' ⟨a', c', rfl, hS⟩
    have h9 := hS.sv.cv
    have e9 : [r].flatten = r := by simp
    rw [e9] at h9
    exact ⟨a', c', rfl, hMd.trans' hS.mods (fun _ _ f => f), h9⟩
  have T36 : Behind w fun w1 => Calls Tryd.prog 36 #[.int .i64 k, .slice a n c, .slice y m d] w1 fun e w' => ∃ a' c', e = .returned (.slice a' (hsz k) c') ∧ Mods Nix w1 w' ∧ Mods Nix w w' ∧ (convert 22 9 (.slice a' (hsz k) c')).run Tryd.prog w' = .ok (.string (strOfNums (hmac0 k l r))) w' := by
    refine ⟨fun w1 hM => ?_⟩
    refine (f36g w1 k a n c l ⟨hs.mods hM (fun _ _ f => f), hB, lim_c (by omega)⟩ y m d r (hr.mods hM (fun _ _ f => f)) hR (lim_c (by omega))).mono ?_
    rintro e w' ⟨a', c', rfl, hS⟩
    exact ⟨a', c', rfl, hS.mods, hM.trans' hS.mods (fun _ _ f => f), conv hS.sv⟩
  have T23 := f23 w hg
  clear hs hr hs0 hr0 hB hR hB0 hR0 hll hrl hg hn2 hm2
  go_enter Tryd.func5, Tryd.ntmps5
  go_upto_region 3 with (first | (go_at_call 23; with_reducible refine T23.mono ?_; rintro e w1 ⟨rfl, hM1⟩) | (go_at_call 24; with_reducible refine (T24a _).mono ?_; rintro e w' ⟨rfl, rfl⟩) | (go_at_call 24; with_reducible refine (T24b _).mono ?_; rintro e w' ⟨rfl, rfl⟩))
  have T5 := T35.out _ hM1
  clear T23 T24a T24b T35
  go_region_with (first | (go_at_call 35; with_reducible refine T5.mono ?_; rintro e w5 ⟨a5, c5, rfl, hM5, cv5⟩; have k5 := cv5.out _ (Mods.refl Nix w5); have T6 := T36.out _ hM5) | (go_at_call 36; with_reducible refine T6.mono ?_; rintro e w6 ⟨a6, c6, rfl, hM56, hM6, k6⟩; have k5b := cv5.out _ hM56))
  all_goals
    go_wp2_with fail
    go_ret
    exact ⟨rfl, hM6⟩
end Go.Proofs.YtladijfaeieidaaDoor
