/- Contracts: keyed.of and HMAC. Conditions: a kind from 1 to 5; lengths that an append may come to. -/
import Derived.Test.YtladijfaeieidaaDoorC12
namespace Go.Proofs.YtladijfaeieidaaDoor
open Go.RowKit

theorem length_hash {k : Int} (l : List Int) : (hash k l).length ≤ hsz k := by rw [hash, digest, List.length_take]; omega
theorem hsz_le {k : Int} (hk : Kd k) : hsz k ≤ 64 := by
  obtain rfl | rfl | rfl | rfl | rfl : k = 1 ∨ k = 2 ∨ k = 3 ∨ k = 4 ∨ k = 5 := by have := hk.one; have := hk.five; omega
  all_goals decide
set_option maxHeartbeats 1000000 in
theorem f96 (w : World) (k : Int) (hk : Kd k) (b1 b2 : Nat) (a1 a2 : Option Addr) (m1 m2 : List Int) (h1 : HO w b1 a1 k m1) (h2 : HO w b2 a2 k m2) (a : Option Addr) (n c : Nat) (ps : List (List Int)) (hps : Bs w a n c ps)
    (hl1 : Lim (m1.length + ps.flatten.length + 300)) (hl2 : Lim (m2.length + 400)) (hg : GK w) :
    Calls Tryd.prog 96 #[.agg #[.pointer (some ⟨b1, 0, none⟩), .pointer (some ⟨b2, 0, none⟩)], .slice a n c] w fun e w' => ∃ a' c', e = .returned (.slice a' (hsz k) c') ∧ SumOut w w' a' (hsz k) c' (hash k (m2 ++ hash k (m1 ++ ps.flatten))) := by
  have hlen := Eqn.mk hps.len
  obtain ⟨wq, hwq⟩ : ∃ wq, Eqn wq (w.alloc (.cells #[.pointer (some ⟨b1, 0, none⟩), .pointer (some ⟨b2, 0, none⟩)] 118)) := ⟨_, ⟨rfl⟩⟩
  have hMq : Mods Nix w wq.drew := by rw [hwq.out]; exact (alloc_mods _ _).drew
  have hRq : RB wq.drew w.heap.size 118 [.pointer (some ⟨b1, 0, none⟩), .pointer (some ⟨b2, 0, none⟩)] := by rw [hwq.out]; exact (RB.new w [_, _] 118).drew
  have h1q := h1.mods hMq (fun f => f) (fun _ _ f => f)
  have h2q := h2.mods hMq (fun f => f) (fun _ _ f => f)
  have e0 : wq.drew.cell? ⟨w.heap.size, 0, none⟩ = some (.pointer (some ⟨b1, 0, none⟩)) := hRq.cell rfl
  have e1 : wq.drew.cell? ⟨w.heap.size, 1, none⟩ = some (.pointer (some ⟨b2, 0, none⟩)) := hRq.cell rfl
  have nix : ∀ {i}, ¬ Nix i := fun f => f
  have nix2 : ∀ {a : Option Addr}, ∀ i, In a i → ¬ Nix i := fun _ _ f => f
  go_enter Tryd.func96, Tryd.ntmps96
  go_wp2_with fail
  rw [← hwq.out]
  go_region_held3 (fun w' => w'.cell? ⟨w.heap.size, 0, none⟩ = some (.pointer (some ⟨b1, 0, none⟩)) ∧ w'.cell? ⟨w.heap.size, 1, none⟩ = some (.pointer (some ⟨b2, 0, none⟩))) (first | (constructor <;> assumption)) (first | (go_at_call 33; with_reducible refine (f33 wq.drew b1 a1 k m1 h1q).mono ?_; rintro e w2 ⟨d1, f1, rfl, hC1⟩; have e2 := hC1.mods.cell e0 nix; have e3 := hC1.mods.cell e1 nix; have h2r := h2q.mods hC1.mods nix nix2) | (go_at_call 33; with_reducible refine (f33 w2 b2 a2 k m2 h2r).mono ?_; rintro e w3 ⟨d2, f2, rfl, hC2⟩; have e4 := hC2.mods.cell e2 nix; have e5 := hC2.mods.cell e3 nix))
  have hM2 : Mods Nix w w2 := hMq.trans' hC1.mods (fun _ _ f => f)
  have hM3 : Mods Nix w w3 := hM2.trans' hC2.mods (fun _ _ f => f)
  have hz0 := hMq.size
  have hz2 := hC1.mods.size
  have hd1 := hC1.fresh
  have hd2 := hC2.fresh
  have hd12 : d1 < w2.heap.size := hC1.ho.lt
  have hd23 : d2 < w3.heap.size := hC2.ho.lt
  have hH1 : HN w.heap.size w3 d1 f1 k m1 := ⟨hC1.ho.mods hC2.mods (fun f => f) (fun _ _ f => f), by omega, hC1.freshA.mono hz0⟩
  have hH2 : HO w3 d2 f2 k m2 := hC2.ho
  have hf1 : ∀ i, In f1 i → i < w2.heap.size := hC1.ho.in_lt
  have hf2 : ∀ i, In f2 i → w2.heap.size ≤ i ∧ i < w3.heap.size := fun i hi => ⟨by obtain ⟨ad, e, rfl⟩ := hi; exact hC2.freshA ad e, hC2.ho.in_lt i hi⟩
  clear e0 e1 e2 e3 e4 e5
  go_wp2_with fail
  go_loopw [17] (fun i wr => ∃ (t : Nat) (a' : Option Addr), t ≤ n ∧ i = .int .i64 t ∧ HN w.heap.size wr d1 a' k (m1 ++ (ps.take t).flatten) ∧ Mods Nix w wr ∧ HO wr d2 f2 k m2 ∧ w3.heap.size ≤ wr.heap.size ∧ (∀ i, In a' i → i < w2.heap.size ∨ w3.heap.size ≤ i)) (fun i _ => n - (intOf i).toNat)
  case atStart => exact ⟨0, f1, Nat.zero_le _, rfl, by simpa using hH1, hM3, hH2, Nat.le_refl _, fun i hi => .inl (hf1 i hi)⟩
  case round =>
    obtain ⟨t, a', ht, rfl, hH, hM, hH2r, hzr, hsep⟩ := hrel
    by_cases h8 : t < n
    · obtain ⟨g, o, x, nx, cx, rfl, hx, hsx, hbx, hnc, hcm⟩ := hps.get t h8
      have hc := hM.cell hx (fun f => f)
      have Hwk : Eqn (wrap64 ((t : Int) + 1)) ((t + 1 : Nat) : Int) := ⟨by simp only [maxLen] at hcm; unfold wrap64; omega⟩
      clear hcm
      have hnx : ¬ In x d1 := fun ⟨ad, e, hb⟩ => by have := hsx.lt ad e; have := hH.fresh; omega
      have hlx : Lim ((m1 ++ (ps.take t).flatten) ++ ps.getD t []).length := hl1.of (by rw [List.append_assoc, ← flatten_take ps t (by rw [hlen.out]; exact h8), List.length_append]; have := flatten_le ps (t + 1); omega)
      go_wp2_with (go_at_call 34; refine (f34n w.heap.size w _ rfl hM d1 a' k _ hH x nx cx _ (hsx.mods hM (fun _ _ f => f)) hbx hlx hnx hg).mono ?_; rintro e w9 ⟨rfl, a9, hH9, hM9, hM99, hN9⟩)
      go_roundw
      case measure => rw [Hwk.out]; exact down_one h8
      case rel =>
        refine ⟨t + 1, a9, by omega, by rw [Hwk.out], ?_, hM9, hH2r.mods hM99 (fun e => e.elim (by omega) (fun hi => by have := hsep _ hi; omega)) (fun i hi e => by have := hf2 i hi; exact e.elim (by omega) (fun hi => by have := hsep _ hi; omega)), Nat.le_trans hzr hM99.size, fun i hi => (hN9 i hi).elim (hsep i) (fun e => .inr (by omega))⟩
        rw [flatten_take ps t (by rw [hlen.out]; exact h8), ← List.append_assoc]
        exact hH9
    · obtain rfl : t = n := by omega
      have hfl : (ps.take t).flatten = ps.flatten := by rw [List.take_of_length_le (by rw [hlen.out]; exact Nat.le_refl _)]
      rw [hfl] at hH
      have hl3 : Lim ((m1 ++ ps.flatten).length + 300) := hl1.of (by rw [List.length_append]; exact Nat.le_refl _)
      have T1 := f32 _ d1 a' k _ hH.ho hl3 (hg.mods hM (fun f => f))
      have T2 : ∀ {w9 a9 c9}, SumOut wr w9 a9 (hsz k) c9 (hash k (m1 ++ ps.flatten)) → Calls Tryd.prog 34 #[.pointer (some ⟨d2, 0, none⟩), .slice a9 (hsz k) c9] w9 fun e w' => e = .returned (.tuple #[]) ∧ ∃ a', HN w.heap.size w' d2 a' k (m2 ++ hash k (m1 ++ ps.flatten)) ∧ Mods Nix w w' := by
        intro w9 a9 c9 hS
        have hL : Lim (m2 ++ hash k (m1 ++ ps.flatten)).length := hl2.of (by rw [List.length_append]; have := length_hash (k := k) (m1 ++ ps.flatten); have := hsz_le hk; omega)
        refine (f34n w.heap.size w w9 rfl (hM.trans' hS.mods (fun _ _ f => f)) d2 f2 k m2 ⟨hH2r.mods hS.mods (fun f => f) (fun _ _ f => f), by omega, hC2.freshA.mono (by omega)⟩ a9 (hsz k) c9 _ hS.own.toSv (hash_byt _ _) hL (fun ⟨ad, e, hb⟩ => by have := hS.fresh ad e; omega) hg).mono ?_
        rintro e w' ⟨rfl, a', h5, h6, -⟩
        exact ⟨rfl, a', h5, h6⟩
      have T3 : ∀ {w9 a9}, HN w.heap.size w9 d2 a9 k (m2 ++ hash k (m1 ++ ps.flatten)) → Mods Nix w w9 → Calls Tryd.prog 32 #[.pointer (some ⟨d2, 0, none⟩)] w9 fun e w' => ∃ a' c', e = .returned (.slice a' (hsz k) c') ∧ SumOut w9 w' a' (hsz k) c' (hash k (m2 ++ hash k (m1 ++ ps.flatten))) := by
        intro w9 a9 hS hM9
        exact f32 w9 d2 a9 k _ hS.ho (hl2.of (by rw [List.length_append]; have := length_hash (k := k) (m1 ++ ps.flatten); have := hsz_le hk; omega)) (hg.mods hM9 (fun f => f))
      go_upto_region 8 with (first | (go_at_call 32; refine T1.mono ?_; rintro e w9 ⟨a9, c9, rfl, hS⟩; have T4 := T2 hS) | (go_at_call 34; refine T4.mono ?_; rintro e w10 ⟨rfl, a10, hS10, hM10⟩))
      clear T1 T2 T4
      have T5 := T3 hS10 hM10
      clear T3
      go_wp2_with (first | (go_at_call 32; refine T5.mono ?_; rintro e w11 ⟨a11, c11, rfl, hS11⟩))
      go_ret
      exact ⟨a11, c11, rfl, hS11.own, hS11.fresh.mono hM10.size, hM10.trans' hS11.mods (fun _ _ f => f)⟩
/-- The keyed hash. -/
def hmac (k : Int) (key m : List Int) : List Int := hash k (kxor 92 (keyOf k key) ++ hash k (kxor 54 (keyOf k key) ++ m))
theorem length_keyOf {k : Int} (hk : Kd k) (l : List Int) : (keyOf k l).length = hbl k := by
  rw [keyOf, kpad]
  split
  · have := length_hash (k := k) l; have := hsz_hbl hk; simp; omega
  · simp; omega
theorem f35 (w : World) (k : Int) (hk : Kd k) (x : Option Addr) (n c : Nat) (l : List Int) (h : KeyIn w x n c l) (a : Option Addr) (pn pc : Nat) (ps : List (List Int)) (hps : Bs w a pn pc ps)
    (hl : Lim (ps.flatten.length + 600)) (hg : GK w) :
    Calls Tryd.prog 35 #[.int .i64 k, .slice x n c, .slice a pn pc] w fun e w' => ∃ a' c', e = .returned (.slice a' (hsz k) c') ∧ SumOut w w' a' (hsz k) c' (hmac k l ps.flatten) := by
  have hz := hsz_pos hk
  have hb : hbl k ≤ 128 := by rcases hbl_cases hk with e | e <;> omega
  go_enter Tryd.func35, Tryd.ntmps35
  go_upto_region 3 with (go_at_call 27; refine (f27 k _).mono ?_; rintro e w' ⟨rfl, rfl⟩)
  have T1 := f95 w k hk x n c l h hg
  have T2 : ∀ {w2 b1 b2 a1 a2}, HN w.heap.size w2 b1 a1 k (kxor 54 (keyOf k l)) → HN w.heap.size w2 b2 a2 k (kxor 92 (keyOf k l)) → Mods Nix w w2 → Calls Tryd.prog 96 #[.agg #[.pointer (some ⟨b1, 0, none⟩), .pointer (some ⟨b2, 0, none⟩)], .slice a pn pc] w2 fun e w' => ∃ a' c', e = .returned (.slice a' (hsz k) c') ∧ SumOut w2 w' a' (hsz k) c' (hmac k l ps.flatten) := by
    intro w2 b1 b2 a1 a2 h1 h2 hM
    exact f96 w2 k hk b1 b2 a1 a2 _ _ h1.ho h2.ho a pn pc ps (hps.mods hM) (hl.of (by rw [length_kxor, length_keyOf hk]; omega)) (hl.of (by rw [length_kxor, length_keyOf hk]; omega)) (hg.mods hM (fun f => f))
  go_wp2_with (first | (go_at_call 95; refine T1.mono ?_; rintro e w2 ⟨b1, b2, a1, a2, rfl, hH1, hH2, hM⟩; have T3 := T2 hH1 hH2 hM) | (go_at_call 96; refine T3.mono ?_; rintro e w3 ⟨a3, c3, rfl, hS⟩))
  go_ret
  exact ⟨a3, c3, rfl, hS.own, hS.fresh.mono hM.size, hM.trans' hS.mods (fun _ _ f => f)⟩
/-- What number makes of an integer. -/
theorem f98 (w : World) (i : Int) : Calls Tryd.prog 98 #[.int .i64 i] w fun e w' => ∃ a' c', e = .returned (.slice a' 4 c') ∧ SumOut w w' a' 4 c' (en4 (i % 4294967296)) := by
  have hL : Lim (0 + 4) := ⟨by omega⟩
  have T := f91 (own_nil w) hL (i % 4294967296)
  go_enter Tryd.func98, Tryd.ntmps98
  go_wp2_with (go_at_call 91; refine T.mono ?_; rintro e w2 ⟨a2, c2, rfl, hO⟩)
  go_ret
  exact ⟨a2, c2, rfl, by simpa using hO.own, hO.new (New.none _) (Nat.le_refl _), hO.mods.mono (fun i _ ⟨ad, e, _⟩ => by cases e)⟩
end Go.Proofs.YtladijfaeieidaaDoor
