/- Contracts: what there is for other kinds (nothing); MGF1. Conditions: lengths that an append may come to. -/
import Derived.Test.YtladijfaeieidaaDoorC13
namespace Go.Proofs.YtladijfaeieidaaDoor
open Go.RowKit

/-- No kind of hash function. -/
structure NoKd (k : Int) : Prop where
  out : ¬ Kd k
theorem kd_or (k : Int) : Kd k ∨ NoKd k := by
  by_cases h : Kd k
  · exact .inl h
  · exact .inr ⟨h⟩
theorem NoKd.ne {k : Int} (h : NoKd k) : k ≠ 1 ∧ k ≠ 2 ∧ k ≠ 3 ∧ k ≠ 4 ∧ k ≠ 5 := by
  refine ⟨?_, ?_, ?_, ?_, ?_⟩ <;> (rintro rfl; exact h.out ⟨by omega, by omega⟩)
theorem hsz_no {k : Int} (h : NoKd k) : hsz k = 0 := by
  obtain ⟨h1, h2, h3, h4, h5⟩ := h.ne
  simp [hsz, h1, h2, h3, h4, h5]
theorem hbl_no {k : Int} (h : NoKd k) : hbl k = 0 := by
  obtain ⟨h1, h2, h3, h4, h5⟩ := h.ne
  simp [hbl, h1, h2, h3, h4, h5]
theorem f27n {k : Int} (h : NoKd k) (w : World) : Calls Tryd.prog 27 #[.int .i64 k] w fun e w' => e = .returned (.int .i64 0) ∧ w = w' := by
  have := f27 k w
  rwa [hsz_no h] at this
theorem f31n (w : World) (k : Int) (hk : NoKd k) : Calls Tryd.prog 31 #[.int .i64 k] w fun e w' => e = .returned (.pointer none) ∧ w = w' := by
  go_enter Tryd.func31, Tryd.ntmps31
  go_wp2_with (go_at_call 27; refine (f27n hk _).mono ?_; rintro e w' ⟨rfl, rfl⟩)
  go_ret
  exact ⟨rfl, rfl⟩
theorem f32n (w : World) : Calls Tryd.prog 32 #[.pointer none] w fun e w' => e = .returned (.slice none 0 0) ∧ w = w' := by
  go_enter Tryd.func32, Tryd.ntmps32
  go_wp2_with fail
  go_ret
  exact ⟨rfl, rfl⟩
theorem f33n (w : World) : Calls Tryd.prog 33 #[.pointer none] w fun e w' => e = .returned (.pointer none) ∧ w = w' := by
  go_enter Tryd.func33, Tryd.ntmps33
  go_wp2_with fail
  go_ret
  exact ⟨rfl, rfl⟩
theorem f34nil (w : World) (x : Option Addr) (n c : Nat) : Calls Tryd.prog 34 #[.pointer none, .slice x n c] w fun e w' => e = .returned (.tuple #[]) ∧ Mods Nix w w' := by
  go_enter Tryd.func34, Tryd.ntmps34
  go_wp2_with fail
  exact bodyPost_ret (results_none rfl _ _ _) rfl ⟨rfl, alloc_mods _ _⟩
set_option maxHeartbeats 1000000 in
theorem f25n (w : World) (k : Int) (hk : NoKd k) (a : Option Addr) (n c : Nat) (ps : List (List Int)) (hps : Bs w a n c ps) :
    Calls Tryd.prog 25 #[.int .i64 k, .slice a n c] w fun e w' => e = .returned (.slice none 0 0) ∧ Mods Nix w w' := by
  have hlen := Eqn.mk hps.len
  go_enter Tryd.func25, Tryd.ntmps25
  go_wp2_with (go_at_call 31; refine (f31n _ k hk).mono ?_; rintro e w' ⟨rfl, rfl⟩)
  go_loopw [12] (fun i wr => ∃ (t : Nat), t ≤ n ∧ i = .int .i64 t ∧ Mods Nix w wr) (fun i _ => n - (intOf i).toNat)
  case atStart => exact ⟨0, Nat.zero_le _, rfl, Mods.refl _ _⟩
  case round =>
    obtain ⟨t, ht, rfl, hM⟩ := hrel
    by_cases h8 : t < n
    · obtain ⟨g, o, x, nx, cx, rfl, hx, hsx, hbx, hnc, hcm⟩ := hps.get t h8
      have hc := hM.cell hx (fun f => f)
      have Hwk : Eqn (wrap64 ((t : Int) + 1)) ((t + 1 : Nat) : Int) := ⟨by simp only [maxLen] at hcm; unfold wrap64; omega⟩
      clear hcm
      go_wp2_with (go_at_call 34; refine (f34nil _ x nx cx).mono ?_; rintro e w9 ⟨rfl, hM9⟩)
      go_roundw
      case measure => rw [Hwk.out]; exact down_one h8
      case rel => exact ⟨t + 1, by omega, by rw [Hwk.out], hM.trans' hM9 (fun _ _ f => f)⟩
    · obtain rfl : t = n := by omega
      go_wp2_with (go_at_call 32; refine (f32n _).mono ?_; rintro e w9 ⟨rfl, rfl⟩)
      go_ret
      exact ⟨rfl, hM⟩
theorem f35n (w : World) (k : Int) (hk : NoKd k) (x : Option Addr) (n c : Nat) (a : Option Addr) (pn pc : Nat) :
    Calls Tryd.prog 35 #[.int .i64 k, .slice x n c, .slice a pn pc] w fun e w' => e = .returned (.slice none 0 0) ∧ w = w' := by
  go_enter Tryd.func35, Tryd.ntmps35
  go_wp2_with (go_at_call 27; refine (f27n hk _).mono ?_; rintro e w' ⟨rfl, rfl⟩)
  go_ret
  exact ⟨rfl, rfl⟩

/-- A hash has so many bytes. -/
theorem hash_len {k : Int} (hk : Kd k) (m : List Int) : (hash k m).length = hsz k := by
  rw [hash, digest, List.length_take]
  obtain ⟨a, b, c, d, e, f, g, h, hE⟩ := eight _ (length_eatN k (m ++ padd (hbl k) (hbl k / 8) m.length) ((m ++ padd (hbl k) (hbl k / 8) m.length).length / hbl k))
  rw [hE]
  obtain rfl | rfl | rfl | rfl | rfl : k = 1 ∨ k = 2 ∨ k = 3 ∨ k = 4 ∨ k = 5 := by have := hk.one; have := hk.five; omega
  all_goals rfl
/-- What a function leaves that gives a new slice of bytes. -/
structure SvOut (w w' : World) (a : Option Addr) (n c : Nat) (l : List Int) : Prop where
  sv : Sv w' 5 1 a n c (bv l)
  fresh : New w.heap.size a
  mods : Mods Nix w w'
theorem SumOut.sv {w w' : World} {a : Option Addr} {n c : Nat} {l : List Int} (h : SumOut w w' a n c l) : SvOut w w' a n c l := ⟨h.own.toSv, h.fresh, h.mods⟩
/-- Slices of bytes in a new row. -/
theorem bs_two {w : World} {x y : Option Addr} {nx cx ny cy : Nat} {l m : List Int} (hx : Sv w 5 1 x nx cx (bv l)) (hy : Sv w 5 1 y ny cy (bv m)) (hl : Byt l) (hm : Byt m) :
    Bs (w.alloc (.cells #[.slice x nx cx, .slice y ny cy] 22)) (some ⟨w.heap.size, 0, none⟩) 2 2 [l, m] := by
  refine ⟨rfl, [.slice x nx cx, .slice y ny cy], (own_lit w [.slice x nx cx, .slice y ny cy] 22 2 rfl (by simp only [maxLen]; omega)).toSv, fun i p hi => ?_⟩
  match i, hi with
  | 0, hi => cases hi; exact ⟨x, nx, cx, rfl, hx.mods (alloc_mods w _) (fun _ _ f => f), hl⟩
  | 1, hi => cases hi; exact ⟨y, ny, cy, rfl, hy.mods (alloc_mods w _) (fun _ _ f => f), hm⟩
theorem byt_en4 (x : Int) : Byt (en4 x) := by
  intro y hy
  simp only [en4, List.mem_cons, List.not_mem_nil, or_false] at hy
  omega
theorem bounds_full (n c N : Nat) (h1 : N ≤ n) (h2 : n ≤ c) (P : Program) (w : World) : (Instr.sliceBounds true n c none (some (.int .i64 N)) (some (.int .i64 N))).run P w = .ok (0, N, N) w := by
  have h3 : N ≤ c := by omega
  have i1 : (N : Int) ≤ c := by omega
  simp [Instr.sliceBounds, Instr.sliceBound, asIntOf, i1]
/-- The mask's hashes, the first t of them, one behind the other. -/
def mgfN (k : Int) (l : List Int) : Nat → List Int
  | 0 => []
  | t + 1 => mgfN k l t ++ hash k (l ++ en4 t)
/-- The mask. -/
def mgf (k : Int) (l : List Int) (n : Nat) : List Int := (mgfN k l ((n + hsz k - 1) / hsz k)).take n
theorem length_mgfN {k : Int} (hk : Kd k) (l : List Int) : ∀ t, (mgfN k l t).length = hsz k * t
  | 0 => rfl
  | t + 1 => by rw [mgfN, List.length_append, length_mgfN hk l t, hash_len hk, Nat.mul_add, Nat.mul_one]
theorem f38n (w : World) (k : Int) (n : Int) (x : Option Addr) (sn sc : Nat) (h : NoKd k ∨ n < 1 ∨ 65536 < n) : Calls Tryd.prog 38 #[.int .i64 k, .slice x sn sc, .int .i64 n] w fun e w' => e = .returned (.slice none 0 0) ∧ w = w' := by
  rcases kd_or k with hk | hk
  · have hz := hsz_pos hk
    have h : n < 1 ∨ 65536 < n := h.resolve_left (fun e => e.out hk)
    rcases h with h | h
    · go_enter Tryd.func38, Tryd.ntmps38
      go_wp2_with (go_at_call 27; refine (f27 k _).mono ?_; rintro e w' ⟨rfl, rfl⟩)
      go_ret
      exact ⟨rfl, rfl⟩
    · have h1 : ¬ n < 1 := by omega
      go_enter Tryd.func38, Tryd.ntmps38
      go_wp2_with (go_at_call 27; refine (f27 k _).mono ?_; rintro e w' ⟨rfl, rfl⟩)
      go_ret
      exact ⟨rfl, rfl⟩
  · clear h
    go_enter Tryd.func38, Tryd.ntmps38
    go_wp2_with (go_at_call 27; refine (f27n hk _).mono ?_; rintro e w' ⟨rfl, rfl⟩)
    go_ret
    exact ⟨rfl, rfl⟩
set_option maxHeartbeats 1000000 in
theorem f38 (w : World) (k : Int) (hk : Kd k) (x : Option Addr) (n c : Nat) (l : List Int) (hs : Sv w 5 1 x n c (bv l)) (hB : Byt l) (hl : Lim (l.length + 700)) (hg : GK w) (N : Nat) (h1 : 1 ≤ N) (h2 : N ≤ 65536) :
    Calls Tryd.prog 38 #[.int .i64 k, .slice x n c, .int .i64 N] w fun e w' => ∃ a' c', e = .returned (.slice a' N c') ∧ SvOut w w' a' N c' (mgf k l N) := by
  have hz := hsz_pos hk
  have hz64 := hsz_le hk
  have hz0 : ((hsz k : Int) == 0) = false := by simp; omega
  obtain ⟨R, hR⟩ : ∃ R, Eqn R ((N + hsz k - 1) / hsz k) := ⟨_, ⟨rfl⟩⟩
  have hP : Pcs N (hsz k) R := by rw [hR.out]; exact pcs N (hsz k) hz
  have hRN : R ≤ 65536 := Nat.le_trans hP.le h2
  have hN1 : (1 : Int) ≤ N := by omega
  have hN2 : (N : Int) ≤ 65536 := by omega
  have e4 : ∀ t : Nat, t < 65536 → en4 ((t : Int) % 4294967296) = en4 t := fun t ht => by rw [Int.emod_eq_of_lt (by omega) (by omega)]
  have E4 := Eqn.mk (show (∀ t : Nat, t < 65536 → en4 ((t : Int) % 4294967296) = en4 t) = True from by simpa using e4)
  clear e4
  have T2 : ∀ (t : Nat) {wr w1 : World} {a4 : Option Addr} {c4 : Nat}, Mods Nix w wr → t < 65536 → SumOut wr w1 a4 4 c4 (en4 ((t : Int) % 4294967296)) →
      Calls Tryd.prog 25 #[.int .i64 k, .slice (some ⟨w1.heap.size, 0, none⟩) 2 2] (w1.alloc (.cells #[.slice x n c, .slice a4 4 c4] 22)) fun e w' => ∃ a' c', e = .returned (.slice a' (hsz k) c') ∧ SumOut wr w' a' (hsz k) c' (hash k (l ++ en4 t)) := by
    intro t wr w1 a4 c4 hM ht hS
    have hM1 := hM.trans' hS.mods (fun _ _ f => f)
    have hy := hS.own.toSv
    rw [of_eq_true E4.out t ht] at hy
    have hb := bs_two (hs.mods hM1 (fun _ _ f => f)) hy hB (byt_en4 t)
    have := f25 _ k hk _ 2 2 _ hb (hl.of (by simp [en4])) (hg.mods (hM1.alloc _) (fun f => f))
    refine this.mono ?_
    rintro e w' ⟨a', c', he, hO⟩
    have hM2 : Mods Nix wr (w1.alloc (.cells #[.slice x n c, .slice a4 4 c4] 22)) := hS.mods.alloc _
    refine ⟨a', c', he, ?_, hO.fresh.mono hM2.size, hM2.trans' hO.mods (fun _ _ f => f)⟩
    have := hO.own
    simpa using this
  go_enter Tryd.func38, Tryd.ntmps38
  go_wp2_with (go_at_call 27; refine (f27 k _).mono ?_; rintro e w' ⟨rfl, rfl⟩)
  go_loopw [7, 8] (fun o i wr => ∃ (t nn : Nat) (a' : Option Addr) (c' : Nat), t ≤ R ∧ Eqn nn (hsz k * t) ∧ i = .int .i64 t ∧ o = .slice a' nn c' ∧ Own wr 5 1 a' nn c' (bv (mgfN k l t)) ∧ New w.heap.size a' ∧ Mods Nix w wr) (fun _ i _ => R - (intOf i).toNat)
  case atStart => exact ⟨0, 0, none, 0, Nat.zero_le _, ⟨by simp⟩, rfl, rfl, own_nil _, New.none _, Mods.refl _ _⟩
  case round =>
    obtain ⟨t, nn, a', c', ht, hnn, rfl, rfl, hO, hN, hM⟩ := hrel
    by_cases h8 : t < R
    · have hlt : nn < N := by rw [hnn.out]; exact (hP.iff t).1 h8
      have hLm : Lim (nn + hsz k) := ⟨by omega⟩
      have ht6 : t < 65536 := by omega
      have T3 := fun {w1 a4 c4} => T2 t (w1 := w1) (a4 := a4) (c4 := c4) hM ht6
      have T4 : ∀ {w' a9 c9}, SumOut wr w' a9 (hsz k) c9 (hash k (l ++ en4 t)) → Own w' 5 1 a' nn c' (bv (mgfN k l t)) := fun h => hO.mods h.mods (fun _ _ f => f)
      go_wp2_with (first | (go_at_call 98; refine (f98 _ _).mono ?_; rintro e w1 ⟨a4, c4, rfl, hS⟩; have T5 := T3 hS) | (go_at_call 25; refine T5.mono ?_; rintro e w2 ⟨a9, c9, rfl, hS9⟩; have hO9 := T4 hS9; have hS10 := hS9.own.toSv) | (at_builtin; refine wpList_app rfl (.tmp 26) (.tmp 32) ei22 rfl hO9 hS10 rfl rfl (bv_one _) (lim_app hLm) hLm.maxLen ?_; intro a5 c5 w5 hO5))
      go_roundw
      case measure => simp [intOf]; omega
      case rel =>
        refine ⟨t + 1, nn + hsz k, a5, c5, h8, ⟨by rw [hnn.out, Nat.mul_add, Nat.mul_one]⟩, by go_num, rfl, ?_, hO5.new hN (Nat.le_trans hM.size hS9.mods.size), (hM.trans' hS9.mods (fun _ _ f => f)).trans' hO5.mods (fun i hi ⟨ad, e, hb⟩ => by have := hN ad e; omega)⟩
        rw [mgfN, bv_append]
        exact hO5.own
    · obtain rfl : t = R := by omega
      have hge : N ≤ nn := by
        have h3 := hP.iff t
        rw [hnn.out]; omega
      have hge2 : ¬ nn < N := by omega
      have hcc := hO.le
      have hcap : N ≤ c' := by omega
      go_wp2_with (first | (with_reducible refine wpList_sub rfl (.tmp 34) none (some (.tmp 35)) (some (.tmp 36)) ei22 rfl rfl hO.toSv 0 N N (Nat.zero_le _) hge (Nat.le_refl _) hcap (bounds_full _ _ _ hge hcc _ _) ?_; intro a9 hS9))
      go_ret
      refine ⟨a9, N, rfl, ?_, fun ad e => ?_, hM⟩
      · have h9 := hS9.sv
        simp only [Nat.sub_zero, Nat.mul_one, List.drop_zero, bv_take] at h9
        rw [mgf, ← hR.out]
        exact h9
      · obtain ⟨ad2, e2, e3⟩ := hS9.sub _ ⟨ad, e, rfl⟩
        have := hN ad2 e2
        omega
end Go.Proofs.YtladijfaeieidaaDoor
