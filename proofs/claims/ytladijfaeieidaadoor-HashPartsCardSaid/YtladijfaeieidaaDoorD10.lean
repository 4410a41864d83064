/- Contracts of the reference: MGF1. Conditions: lengths that an append may come to. -/
import Derived.Test.YtladijfaeieidaaDoorD9
namespace Go.Proofs.YtladijfaeieidaaDoor
open Go.RowKit

theorem bounds_to (n c N : Nat) (h1 : N ≤ n) (h2 : n ≤ c) (P : Program) (w : World) : (Instr.sliceBounds true n c none (some (.int .i64 N)) none).run P w = .ok (0, N, c) w := by
  have i1 : N ≤ c := by omega
  simp [Instr.sliceBounds, Instr.sliceBound, asIntOf, i1]
theorem f28n {k : Int} (h : NoKd k) (w : World) : Calls Tryd.prog 28 #[.int .i64 k] w fun e w' => e = .returned (.int .i64 0) ∧ w = w' := by
  have := f28 k w
  rwa [hsz_no h] at this
theorem f39n (w : World) (k : Int) (n : Int) (x : Option Addr) (sn sc : Nat) (h : NoKd k ∨ n < 1 ∨ 65536 < n) : Calls Tryd.prog 39 #[.int .i64 k, .slice x sn sc, .int .i64 n] w fun e w' => e = .returned (.slice none 0 0) ∧ w = w' := by
  rcases kd_or k with hk | hk
  · have hz := hsz_pos hk
    have h : n < 1 ∨ 65536 < n := h.resolve_left (fun e => e.out hk)
    rcases h with h | h
    · go_enter Tryd.func39, Tryd.ntmps39
      go_wp2_with (go_at_call 28; refine (f28 k _).mono ?_; rintro e w' ⟨rfl, rfl⟩)
      go_ret
      exact ⟨rfl, rfl⟩
    · have h1 : ¬ n < 1 := by omega
      go_enter Tryd.func39, Tryd.ntmps39
      go_wp2_with (go_at_call 28; refine (f28 k _).mono ?_; rintro e w' ⟨rfl, rfl⟩)
      go_ret
      exact ⟨rfl, rfl⟩
  · clear h
    go_enter Tryd.func39, Tryd.ntmps39
    go_wp2_with (go_at_call 28; refine (f28n hk _).mono ?_; rintro e w' ⟨rfl, rfl⟩)
    go_ret
    exact ⟨rfl, rfl⟩
set_option maxHeartbeats 1000000 in
theorem f39 (w : World) (k : Int) (hk : Kd k) (x : Option Addr) (n c : Nat) (l : List Int) (hs : Sv w 5 1 x n c (bv l)) (hB : Byt l) (hl : Lim (l.length + 1000)) (N : Nat) (h1 : 1 ≤ N) (h2 : N ≤ 65536) :
    Calls Tryd.prog 39 #[.int .i64 k, .slice x n c, .int .i64 N] w fun e w' => ∃ a' c', e = .returned (.slice a' N c') ∧ SvOut w w' a' N c' (mgf k l N) := by
  have hz := hsz_pos hk
  have hz64 := hsz_le hk
  have hz0 : ((hsz k : Int) == 0) = false := by simp; omega
  have hnl : Eqn l.length n := ⟨by have := hs.len; simpa [bv] using this⟩
  obtain ⟨R, hR⟩ : ∃ R, Eqn R ((N + hsz k - 1) / hsz k) := ⟨_, ⟨rfl⟩⟩
  have hP : Pcs N (hsz k) R := by rw [hR.out]; exact pcs N (hsz k) hz
  have hRN : R ≤ 65536 := Nat.le_trans hP.le h2
  have hN1 : (1 : Int) ≤ N := by omega
  have hN2 : (N : Int) ≤ 65536 := by omega
  have T2 : ∀ (t : Nat) {wr w1 : World} {a4 : Option Addr}, Mods Nix w wr → SumOut wr w1 a4 4 4 (en4 (t : Int)) →
      Calls Tryd.prog 100 #[.slice (some ⟨w1.heap.size, 0, none⟩) 2 2] (w1.alloc (.cells #[.slice x n c, .slice a4 4 4] 22)) fun e w' => ∃ a' k' c', e = .returned (.slice a' k' c') ∧ Eqn k' (l ++ en4 t).length ∧ SumOut wr w' a' k' c' (l ++ en4 t) := by
    intro t wr w1 a4 hM hS
    have hM1 := hM.trans' hS.mods (fun _ _ f => f)
    have hb := bs_two (hs.mods hM1 (fun _ _ f => f)) hS.own.toSv hB (byt_en4 t)
    have hM2 : Mods Nix wr (w1.alloc (.cells #[.slice x n c, .slice a4 4 4] 22)) := hS.mods.alloc _
    refine (f100 _ _ 2 2 _ hb (hl.of (by simp [en4]))).mono ?_
    rintro e w' ⟨a', k', c', he, hk', hO⟩
    have e9 : [l, en4 (t : Int)].flatten = l ++ en4 t := by simp
    rw [e9] at hk' hO
    exact ⟨a', k', c', he, hk', hO.own, hO.fresh.mono hM2.size, hM2.trans' hO.mods (fun _ _ f => f)⟩
  have T3 : ∀ (t : Nat) {wr w1 : World} {a4 : Option Addr} {k4 c4 : Nat}, Eqn k4 (l ++ en4 t).length → SumOut wr w1 a4 k4 c4 (l ++ en4 t) →
      Calls Tryd.prog 26 #[.int .i64 k, .slice a4 k4 c4] w1 fun e w' => ∃ a' c', e = .returned (.slice a' (hsz k) c') ∧ SumOut wr w' a' (hsz k) c' (hash k (l ++ en4 t)) := by
    intro t wr w1 a4 k4 c4 hk4 hS
    refine (f26 w1 k hk a4 k4 c4 _ hS.own.toSv (hl.of (by rw [hk4.out]; simp [en4])) (hB.app (byt_en4 t))).mono ?_
    rintro e w' ⟨a', c', he, hO⟩
    exact ⟨a', c', he, hO.own, hO.fresh.mono hS.mods.size, hS.mods.trans' hO.mods (fun _ _ f => f)⟩
  go_enter Tryd.func39, Tryd.ntmps39
  go_wp2_with (go_at_call 28; refine (f28 k _).mono ?_; rintro e w' ⟨rfl, rfl⟩)
  go_loopw [8, 9] (fun o i wr => ∃ (t nn : Nat) (a' : Option Addr) (c' : Nat), t ≤ R ∧ Eqn nn (hsz k * t) ∧ i = .int .i64 t ∧ o = .slice a' nn c' ∧ Own wr 5 1 a' nn c' (bv (mgfN k l t)) ∧ New w.heap.size a' ∧ Mods Nix w wr) (fun _ i _ => R - (intOf i).toNat)
  case atStart => exact ⟨0, 0, none, 0, Nat.zero_le _, ⟨by simp⟩, rfl, rfl, own_nil _, New.none _, Mods.refl _ _⟩
  case round =>
    obtain ⟨t, nn, a', c', ht, hnn, rfl, rfl, hO, hN, hM⟩ := hrel
    by_cases h8 : t < R
    · have hlt : nn < N := by rw [hnn.out]; exact (hP.iff t).1 h8
      have hLm : Lim (nn + hsz k) := ⟨by omega⟩
      have ht6 : t < 65536 := by omega
      have T99 := f99 wr t (by omega)
      have T4 := fun {w1 a4} => T2 t (w1 := w1) (a4 := a4) hM
      have T5 := fun {w1 a4 k4 c4} => T3 t (wr := wr) (w1 := w1) (a4 := a4) (k4 := k4) (c4 := c4)
      have T6 : ∀ {w' a9 c9}, SumOut wr w' a9 (hsz k) c9 (hash k (l ++ en4 t)) → Own w' 5 1 a' nn c' (bv (mgfN k l t)) := fun h => hO.mods h.mods (fun _ _ f => f)
      go_wp2_with (first | (go_at_call 99; with_reducible refine T99.mono ?_; rintro e w1 ⟨rfl, hS⟩; have T7 := T4 hS) | (go_at_call 100; with_reducible refine T7.mono ?_; rintro e w2 ⟨a2, k2, c2, rfl, hk2, hS2⟩; have T8 := T5 hk2 hS2) | (go_at_call 26; with_reducible refine T8.mono ?_; rintro e w3 ⟨a9, c9, rfl, hS9⟩; have hO9 := T6 hS9; have hS10 := hS9.own.toSv) | (at_builtin; with_reducible refine wpList_app rfl (.tmp 38) (.tmp 39) ei22 rfl hO9 hS10 rfl rfl (bv_one _) (lim_app hLm) hLm.maxLen ?_; intro a5 c5 w5 hO5))
      go_roundw
      case measure => simp [intOf]; omega
      case rel =>
        refine ⟨t + 1, nn + hsz k, a5, c5, h8, ⟨by rw [hnn.out, Nat.mul_add, Nat.mul_one]⟩, by go_num, rfl, ?_, hO5.new hN (Nat.le_trans hM.size hS9.mods.size), (hM.trans' hS9.mods (fun _ _ f => f)).trans' hO5.mods (fun i hi ⟨ad, e, hb⟩ => by have := hN ad e; omega)⟩
        rw [mgfN, bv_append]
        exact hO5.own
    · obtain rfl : t = R := by omega
      have hge : N ≤ nn := by
        have h3 := hP.iff t
        rw [hnn.out]; omega
      have hge2 : ¬ nn < N := by omega
      have hcc := hO.le
      have hcap : N ≤ c' := by omega
      go_wp2_with (first | (with_reducible refine wpList_sub rfl (.tmp 41) none (some (.tmp 42)) none ei22 rfl rfl hO.toSv 0 N c' (Nat.zero_le _) hge hcap (Nat.le_refl _) (bounds_to _ _ _ hge hcc _ _) ?_; intro a9 hS9))
      go_ret
      refine ⟨a9, _, rfl, ?_, fun ad e => ?_, hM⟩
      · have h9 := hS9.sv
        simp only [Nat.sub_zero, Nat.mul_one, List.drop_zero, bv_take] at h9
        rw [mgf, ← hR.out]
        exact h9
      · obtain ⟨ad2, e2, e3⟩ := hS9.sub _ ⟨ad, e, rfl⟩
        have := hN ad2 e2
        omega
end Go.Proofs.YtladijfaeieidaaDoor
