/- Contracts: PBKDF2 of the program and of the reference, of whatever arguments. Conditions: few rounds, few bytes. -/
import Derived.Test.YtladijfaeieidaaDoorE6
import Derived.Test.YtladijfaeieidaaDoorD11
namespace Go.Proofs.YtladijfaeieidaaDoor
open Go.RowKit

/-- What is refused. -/
def pbBad (k r n : Int) : Prop := hsz k = 0 ∨ r < 1 ∨ 65536 < r ∨ n < 1 ∨ 65536 < n
instance (k r n : Int) : Decidable (pbBad k r n) := by unfold pbBad; infer_instance
/-- How long the key is: what is asked for, or nothing. -/
def pbn (k r n : Int) : Nat := if pbBad k r n then 0 else n.toNat
/-- The key, or nothing. -/
def pbk0 (k : Int) (pin salt : List Int) (r n : Int) : List Int := if pbBad k r n then [] else pbk k pin salt r.toNat n.toNat
theorem few_blocks {k : Int} (hk : Kd k) (r n : Nat) (hr : r ≤ 9) (hn : n ≤ 150) : r * ((n + hsz k - 1) / hsz k) ≤ 65536 := by
  have hz := hsz_pos hk
  have h1 : (n + hsz k - 1) / hsz k ≤ n := (pcs n (hsz k) hz).le
  exact Nat.le_trans (Nat.mul_le_mul hr (Nat.le_trans h1 hn)) (by omega)
theorem f40na (w : World) (k r n : Int) (x y : Option Addr) (ns cs ms ds : Nat) (hk : NoKd k) :
    Calls Tryd.prog 40 #[.int .i64 k, .slice x ns cs, .slice y ms ds, .int .i64 r, .int .i64 n] w fun e w' => e = .returned (.slice none 0 0) ∧ w = w' := by
  go_enter Tryd.func40, Tryd.ntmps40
  go_wp2_with (go_at_call 27; refine (f27n hk _).mono ?_; rintro e w' ⟨rfl, rfl⟩)
  go_ret
  exact ⟨rfl, rfl⟩
theorem f40nb (w : World) (k r n : Int) (x y : Option Addr) (ns cs ms ds : Nat) (hk : Kd k) (h1 : r < 1) :
    Calls Tryd.prog 40 #[.int .i64 k, .slice x ns cs, .slice y ms ds, .int .i64 r, .int .i64 n] w fun e w' => e = .returned (.slice none 0 0) ∧ w = w' := by
  have hz := hsz_pos hk
  have hz0 : ((hsz k : Int) == 0) = false := by simp; omega
  clear hz
  go_enter Tryd.func40, Tryd.ntmps40
  go_wp2_with (go_at_call 27; refine (f27 k _).mono ?_; rintro e w' ⟨rfl, rfl⟩)
  go_ret
  exact ⟨rfl, rfl⟩
theorem f40nc (w : World) (k r n : Int) (x y : Option Addr) (ns cs ms ds : Nat) (hk : Kd k) (h1 : ¬ r < 1) (h2 : 65536 < r) :
    Calls Tryd.prog 40 #[.int .i64 k, .slice x ns cs, .slice y ms ds, .int .i64 r, .int .i64 n] w fun e w' => e = .returned (.slice none 0 0) ∧ w = w' := by
  have hz := hsz_pos hk
  have hz0 : ((hsz k : Int) == 0) = false := by simp; omega
  clear hz
  go_enter Tryd.func40, Tryd.ntmps40
  go_wp2_with (go_at_call 27; refine (f27 k _).mono ?_; rintro e w' ⟨rfl, rfl⟩)
  go_ret
  exact ⟨rfl, rfl⟩
theorem f40nd (w : World) (k r n : Int) (x y : Option Addr) (ns cs ms ds : Nat) (hk : Kd k) (h1 : ¬ r < 1) (h2 : ¬ 65536 < r) (h3 : n < 1) :
    Calls Tryd.prog 40 #[.int .i64 k, .slice x ns cs, .slice y ms ds, .int .i64 r, .int .i64 n] w fun e w' => e = .returned (.slice none 0 0) ∧ w = w' := by
  have hz := hsz_pos hk
  have hz0 : ((hsz k : Int) == 0) = false := by simp; omega
  clear hz
  go_enter Tryd.func40, Tryd.ntmps40
  go_wp2_with (go_at_call 27; refine (f27 k _).mono ?_; rintro e w' ⟨rfl, rfl⟩)
  go_ret
  exact ⟨rfl, rfl⟩
theorem f40ne (w : World) (k r n : Int) (x y : Option Addr) (ns cs ms ds : Nat) (hk : Kd k) (h1 : ¬ r < 1) (h2 : ¬ 65536 < r) (h3 : ¬ n < 1) (h4 : 65536 < n) :
    Calls Tryd.prog 40 #[.int .i64 k, .slice x ns cs, .slice y ms ds, .int .i64 r, .int .i64 n] w fun e w' => e = .returned (.slice none 0 0) ∧ w = w' := by
  have hz := hsz_pos hk
  have hz0 : ((hsz k : Int) == 0) = false := by simp; omega
  clear hz
  go_enter Tryd.func40, Tryd.ntmps40
  go_wp2_with (go_at_call 27; refine (f27 k _).mono ?_; rintro e w' ⟨rfl, rfl⟩)
  go_ret
  exact ⟨rfl, rfl⟩
theorem f40n (w : World) (k r n : Int) (x y : Option Addr) (ns cs ms ds : Nat) (h : pbBad k r n) :
    Calls Tryd.prog 40 #[.int .i64 k, .slice x ns cs, .slice y ms ds, .int .i64 r, .int .i64 n] w fun e w' => e = .returned (.slice none 0 0) ∧ w = w' := by
  rcases kd_or k with hk | hk
  · have hz := hsz_pos hk
    have h : r < 1 ∨ 65536 < r ∨ n < 1 ∨ 65536 < n := h.resolve_left (by omega)
    by_cases h1 : r < 1
    · exact f40nb w k r n x y ns cs ms ds hk h1
    by_cases h2 : 65536 < r
    · exact f40nc w k r n x y ns cs ms ds hk h1 h2
    by_cases h3 : n < 1
    · exact f40nd w k r n x y ns cs ms ds hk h1 h2 h3
    · exact f40ne w k r n x y ns cs ms ds hk h1 h2 h3 (by omega)
  · exact f40na w k r n x y ns cs ms ds hk
theorem sv_none_of {w w' : World} (h : Mods Nix w w') : SvOut w w' none 0 0 [] := ⟨by simpa [bv] using (Own.none w' 5 1).toSv, New.none _, h⟩
theorem f41na (w : World) (k r n : Int) (x y : Option Addr) (ns cs ms ds : Nat) (hk : NoKd k) :
    Calls Tryd.prog 41 #[.int .i64 k, .slice x ns cs, .slice y ms ds, .int .i64 r, .int .i64 n] w fun e w' => e = .returned (.slice none 0 0) ∧ Mods Nix w w' := by
  go_enter Tryd.func41, Tryd.ntmps41
  go_wp2_with (go_at_call 28; refine (f28n hk _).mono ?_; rintro e w' ⟨rfl, rfl⟩)
  go_quiet (fail)
  go_wp2_with fail
  go_ret
  exact ⟨rfl, (Mods.refl Nix w).drewN _⟩
theorem f41nb (w : World) (k r n : Int) (x y : Option Addr) (ns cs ms ds : Nat) (hk : Kd k) (h1 : r < 1) :
    Calls Tryd.prog 41 #[.int .i64 k, .slice x ns cs, .slice y ms ds, .int .i64 r, .int .i64 n] w fun e w' => e = .returned (.slice none 0 0) ∧ Mods Nix w w' := by
  have hz := hsz_pos hk
  have hz0 : ((hsz k : Int) == 0) = false := by simp; omega
  clear hz
  have d1t : decide (r < 1) = true := decide_eq_true h1
  clear h1
  go_enter Tryd.func41, Tryd.ntmps41
  go_wp2_with (go_at_call 28; refine (f28 k _).mono ?_; rintro e w' ⟨rfl, rfl⟩)
  go_quiet (fail)
  go_wp2_with fail
  go_ret
  exact ⟨rfl, (Mods.refl Nix w).drewN _⟩
theorem f41nc (w : World) (k r n : Int) (x y : Option Addr) (ns cs ms ds : Nat) (hk : Kd k) (h1 : ¬ r < 1) (h2 : 65536 < r) :
    Calls Tryd.prog 41 #[.int .i64 k, .slice x ns cs, .slice y ms ds, .int .i64 r, .int .i64 n] w fun e w' => e = .returned (.slice none 0 0) ∧ Mods Nix w w' := by
  have hz := hsz_pos hk
  have hz0 : ((hsz k : Int) == 0) = false := by simp; omega
  clear hz
  have d1f : decide (r < 1) = false := decide_eq_false h1
  have d2t : decide (65536 < r) = true := decide_eq_true h2
  clear h1 h2
  go_enter Tryd.func41, Tryd.ntmps41
  go_wp2_with (go_at_call 28; refine (f28 k _).mono ?_; rintro e w' ⟨rfl, rfl⟩)
  go_quiet (fail)
  go_wp2_with fail
  go_ret
  exact ⟨rfl, (Mods.refl Nix w).drewN _⟩
theorem f41nd (w : World) (k r n : Int) (x y : Option Addr) (ns cs ms ds : Nat) (hk : Kd k) (h1 : ¬ r < 1) (h2 : ¬ 65536 < r) (h3 : n < 1) :
    Calls Tryd.prog 41 #[.int .i64 k, .slice x ns cs, .slice y ms ds, .int .i64 r, .int .i64 n] w fun e w' => e = .returned (.slice none 0 0) ∧ Mods Nix w w' := by
  have hz := hsz_pos hk
  have hz0 : ((hsz k : Int) == 0) = false := by simp; omega
  clear hz
  have d1f : decide (r < 1) = false := decide_eq_false h1
  have d2f : decide (65536 < r) = false := decide_eq_false h2
  have d3t : decide (n < 1) = true := decide_eq_true h3
  clear h1 h2 h3
  go_enter Tryd.func41, Tryd.ntmps41
  go_wp2_with (go_at_call 28; refine (f28 k _).mono ?_; rintro e w' ⟨rfl, rfl⟩)
  go_quiet (fail)
  go_wp2_with fail
  go_ret
  exact ⟨rfl, (Mods.refl Nix w).drewN _⟩
theorem f41ne (w : World) (k r n : Int) (x y : Option Addr) (ns cs ms ds : Nat) (hk : Kd k) (h1 : ¬ r < 1) (h2 : ¬ 65536 < r) (h3 : ¬ n < 1) (h4 : 65536 < n) :
    Calls Tryd.prog 41 #[.int .i64 k, .slice x ns cs, .slice y ms ds, .int .i64 r, .int .i64 n] w fun e w' => e = .returned (.slice none 0 0) ∧ Mods Nix w w' := by
  have hz := hsz_pos hk
  have hz0 : ((hsz k : Int) == 0) = false := by simp; omega
  clear hz
  have d1f : decide (r < 1) = false := decide_eq_false h1
  have d2f : decide (65536 < r) = false := decide_eq_false h2
  have d3f : decide (n < 1) = false := decide_eq_false h3
  have d4t : decide (65536 < n) = true := decide_eq_true h4
  clear h1 h2 h3 h4
  go_enter Tryd.func41, Tryd.ntmps41
  go_wp2_with (go_at_call 28; refine (f28 k _).mono ?_; rintro e w' ⟨rfl, rfl⟩)
  go_quiet (fail)
  go_wp2_with fail
  go_ret
  exact ⟨rfl, (Mods.refl Nix w).drewN _⟩
theorem f41n (w : World) (k r n : Int) (x y : Option Addr) (ns cs ms ds : Nat) (h : pbBad k r n) :
    Calls Tryd.prog 41 #[.int .i64 k, .slice x ns cs, .slice y ms ds, .int .i64 r, .int .i64 n] w fun e w' => e = .returned (.slice none 0 0) ∧ Mods Nix w w' := by
  rcases kd_or k with hk | hk
  · have hz := hsz_pos hk
    have h : r < 1 ∨ 65536 < r ∨ n < 1 ∨ 65536 < n := h.resolve_left (by omega)
    by_cases h1 : r < 1
    · exact f41nb w k r n x y ns cs ms ds hk h1
    by_cases h2 : 65536 < r
    · exact f41nc w k r n x y ns cs ms ds hk h1 h2
    by_cases h3 : n < 1
    · exact f41nd w k r n x y ns cs ms ds hk h1 h2 h3
    · exact f41ne w k r n x y ns cs ms ds hk h1 h2 h3 (by omega)
  · exact f41na w k r n x y ns cs ms ds hk
theorem f40g (w : World) (k : Int) (x : Option Addr) (n c : Nat) (pin : List Int) (hpin : KeyIn w x n c pin) (y : Option Addr) (ns cs : Nat) (salt : List Int) (hsalt : Sv w 5 1 y ns cs (bv salt)) (hsB : Byt salt) (hsl : Lim (salt.length + 2000)) (hg : GK w)
    (r N : Int) (hr : r ≤ 9 ∨ 65536 < r) (hN : N ≤ 150 ∨ 65536 < N) :
    Calls Tryd.prog 40 #[.int .i64 k, .slice x n c, .slice y ns cs, .int .i64 r, .int .i64 N] w fun e w' => ∃ a' c', e = .returned (.slice a' (pbn k r N) c') ∧ SvOut w w' a' (pbn k r N) c' (pbk0 k pin salt r N) := by
  by_cases h : pbBad k r N
  · rw [pbn, pbk0, if_pos h, if_pos h]
    refine (f40n w k r N x y n c ns cs h).mono ?_
    rintro e w' ⟨rfl, rfl⟩
    exact ⟨none, 0, rfl, sv_none w⟩
  · rw [pbn, pbk0, if_neg h, if_neg h]
    have hk : Kd k := (kd_or k).resolve_right (fun hn => h (.inl (hsz_no hn)))
    have h' : ¬ r < 1 ∧ ¬ 65536 < r ∧ ¬ N < 1 ∧ ¬ 65536 < N := by
      refine ⟨fun e => h ?_, fun e => h ?_, fun e => h ?_, fun e => h ?_⟩
      · exact .inr (.inl e)
      · exact .inr (.inr (.inl e))
      · exact .inr (.inr (.inr (.inl e)))
      · exact .inr (.inr (.inr (.inr e)))
    obtain ⟨R, rfl⟩ := Int.eq_ofNat_of_zero_le (show 0 ≤ r by omega)
    obtain ⟨M, rfl⟩ := Int.eq_ofNat_of_zero_le (show 0 ≤ N by omega)
    exact f40 w k hk x n c pin hpin y ns cs salt hsalt hsB hsl hg R M (by omega) (by omega) (by omega) (by omega) (few_blocks hk R M (by omega) (by omega))
theorem f41g (w : World) (k : Int) (x : Option Addr) (n c : Nat) (pin : List Int) (hpin : KeyIn w x n c pin) (y : Option Addr) (ns cs : Nat) (salt : List Int) (hsalt : Sv w 5 1 y ns cs (bv salt)) (hsB : Byt salt) (hsl : Lim (salt.length + 2000))
    (r N : Int) (hr : r ≤ 9 ∨ 65536 < r) (hN : N ≤ 150 ∨ 65536 < N) :
    Calls Tryd.prog 41 #[.int .i64 k, .slice x n c, .slice y ns cs, .int .i64 r, .int .i64 N] w fun e w' => ∃ a' c', e = .returned (.slice a' (pbn k r N) c') ∧ SvOut w w' a' (pbn k r N) c' (pbk0 k pin salt r N) := by
  by_cases h : pbBad k r N
  · rw [pbn, pbk0, if_pos h, if_pos h]
    refine (f41n w k r N x y n c ns cs h).mono ?_
    rintro e w' ⟨rfl, hM⟩
    exact ⟨none, 0, rfl, sv_none_of hM⟩
  · rw [pbn, pbk0, if_neg h, if_neg h]
    have hk : Kd k := (kd_or k).resolve_right (fun hn => h (.inl (hsz_no hn)))
    have h' : ¬ r < 1 ∧ ¬ 65536 < r ∧ ¬ N < 1 ∧ ¬ 65536 < N := by
      refine ⟨fun e => h ?_, fun e => h ?_, fun e => h ?_, fun e => h ?_⟩
      · exact .inr (.inl e)
      · exact .inr (.inr (.inl e))
      · exact .inr (.inr (.inr (.inl e)))
      · exact .inr (.inr (.inr (.inr e)))
    obtain ⟨R, rfl⟩ := Int.eq_ofNat_of_zero_le (show 0 ≤ r by omega)
    obtain ⟨M, rfl⟩ := Int.eq_ofNat_of_zero_le (show 0 ≤ N by omega)
    exact f41 w k hk x n c pin hpin y ns cs salt hsalt hsB hsl R M (by omega) (by omega) (by omega) (by omega) (few_blocks hk R M (by omega) (by omega))
end Go.Proofs.YtladijfaeieidaaDoor
