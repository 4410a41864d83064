/- Contracts of the reference: HMAC. Conditions: lengths that an append may come to. -/
import Derived.Test.YtladijfaeieidaaDoorD8
import Derived.Deep.Cut
namespace Go.Proofs.YtladijfaeieidaaDoor
open Go.RowKit

/-- What stands in a block of the keyed hash. -/
structure KAt (k : Int) (nx : Nat) (ky KP : List Int) : Prop where
  out : ∀ (X : Int) t, t < hbl k → (kxor X KP).getD t 0 = bits .xor .u8 (if t < nx then ky.getD t 0 else 0) X
set_option maxRecDepth 100000 in
set_option maxHeartbeats 4000000 in
theorem f36_short (w : World) (k : Int) (hk : Kd k) (x : Option Addr) (n c : Nat) (l : List Int) (h : KeyIn w x n c l) (hn : n ≤ hbl k) (y : Option Addr) (nb cb : Nat) (m : List Int) (hy : Sv w 5 1 y nb cb (bv m)) (hmB : Byt m) (hml : Lim (nb + 700)) :
    Calls Tryd.prog 36 #[.int .i64 k, .slice x n c, .slice y nb cb] w fun e w' => ∃ a' c', e = .returned (.slice a' (hsz k) c') ∧ SumOut w w' a' (hsz k) c' (hmac k l m) := by
  have hll : l.length = n := by have := h.sv.len; simpa [bv] using this
  have hmm : Eqn m.length nb := ⟨by have := hy.len; simpa [bv] using this⟩
  have hb0 := hbl_pos hk
  have hb8 : hbl k ≤ 128 := by rcases hbl_cases hk with e | e <;> omega
  have hs64 := hsz_le hk
  have hsb := hsz_hbl hk
  have hz0 : ((hbl k : Int) == 0) = false := by simp; omega
  obtain ⟨ky, hky⟩ : ∃ ky, Eqn ky l := ⟨_, ⟨rfl⟩⟩
  obtain ⟨KP, hKP⟩ : ∃ KP, Eqn KP (kpad k ky) := ⟨_, ⟨rfl⟩⟩
  have hKey : Eqn (keyOf k l) KP := ⟨by rw [keyOf, if_neg (by omega), hKP.out, hky.out]⟩
  have hkb : Byt ky := by rw [hky.out]; exact h.byt
  have hlt : ¬ (hbl k : Int) < n := by omega
  have hLl := Eqn.mk hll
  clear hll
  obtain ⟨nx, hnx⟩ : ∃ nx, nx = n := ⟨_, rfl⟩
  obtain ⟨x', hx'⟩ : ∃ x', x' = x := ⟨_, rfl⟩
  obtain ⟨cx, hcx⟩ : ∃ cx, cx = c := ⟨_, rfl⟩
  subst hnx hx' hcx
  have hM0 := Mods.refl Nix w
  have hkS : Sv w 5 1 x' nx cx (bv ky) := by rw [hky.out]; exact h.sv
  have hnb : nx ≤ hbl k := hn
  go_enter Tryd.func36, Tryd.ntmps36
  go_upto_region 6 with (first | (go_at_call 30; with_reducible refine (f30 k _).mono ?_; rintro e w' ⟨rfl, rfl⟩))
  obtain ⟨W0, hW0⟩ : ∃ W0, Eqn W0 w := ⟨_, ⟨rfl⟩⟩
  have hM0 : Mods Nix w W0 := by rw [hW0.out]; exact hM0
  rw [← hW0.out] at hkS
  rw [← hW0.out]
  have hkl : Eqn ky.length nx := ⟨by have := hkS.len; simpa [bv] using this⟩
  have hKl : Eqn KP.length (hbl k) := ⟨by rw [hKP.out, kpad, List.length_append, List.length_replicate, hkl.out]; omega⟩
  have hKB : Byt KP := by
    rw [hKP.out]
    intro z hz
    rcases List.mem_append.1 hz with h1 | h1
    · exact hkb z h1
    · simp at h1; omega
  have hq1 : 1 * hbl k ≤ 281474976710656 := by omega
  have hq2 : hbl k ≤ maxLen := by simp only [maxLen]; omega
  go_upto_region 8 with (first | (with_reducible refine wpList_mk rfl (.tmp 24) (.tmp 24) ei22 rfl rfl (hbl k) rfl rfl rfl rfl hq1 hq2 ?_; intro _) | (with_reducible refine wpList_mk rfl (.tmp 26) (.tmp 26) ei22 rfl rfl (hbl k) rfl rfl rfl rfl hq1 hq2 ?_; intro _))
  obtain ⟨W2, hW2⟩ : ∃ W2, Eqn W2 ((W0.alloc (Obj.cells (Array.replicate (hbl k) (Value.int .u8 0)) 5)).alloc (Obj.cells (Array.replicate (hbl k) (Value.int .u8 0)) 5)) := ⟨_, ⟨rfl⟩⟩
  rw [← hW2.out]
  have hI1 : IB W2 W0.heap.size 5 .u8 (List.replicate (hbl k) 0) := by
    rw [hW2.out]
    have := (IB.new W0 (List.replicate (hbl k) 0) .u8 5).alloc (Obj.cells (Array.replicate (hbl k) (Value.int .u8 0)) 5)
    simpa using this
  have hI2 : IB W2 (W0.heap.size + 1) 5 .u8 (List.replicate (hbl k) 0) := by
    rw [hW2.out]
    have := IB.new (W0.alloc (Obj.cells (Array.replicate (hbl k) (Value.int .u8 0)) 5)) (List.replicate (hbl k) 0) .u8 5
    simpa using this
  have hM2 : Mods Nix W0 W2 := by rw [hW2.out]; exact ((Mods.refl Nix W0).alloc _).alloc _
  have hl54 : Eqn (kxor 54 KP).length (hbl k) := ⟨by rw [length_kxor, hKl.out]⟩
  have hl92 : Eqn (kxor 92 KP).length (hbl k) := ⟨by rw [length_kxor, hKl.out]⟩
  have hKPat : ∀ t, t < hbl k → KP.getD t 0 = if t < nx then ky.getD t 0 else 0 := by
    intro t ht
    rw [hKP.out, kpad]
    split
    · rw [getD_front _ _ _ (by rw [hkl.out]; assumption)]
    · simp only [List.getD]
      rw [List.getElem?_append_right (by rw [hkl.out]; omega)]
      simp only [List.getElem?_replicate]
      split <;> rfl
  have hat : ∀ (X : Int) t, t < hbl k → (kxor X KP).getD t 0 = bits .xor .u8 (KP.getD t 0) X := by
    intro X t ht
    rw [List.getD, kxor_at X KP t (by rw [hKl.out]; exact ht)]
    rfl
  have HA : KAt k nx ky KP := ⟨fun X t ht => by rw [hat X t ht, hKPat t ht]⟩
  clear hKPat hat
  go_wp2_with fail
  go_loopw [10] (fun i wr => ∃ t : Nat, t ≤ hbl k ∧ i = .int .i64 t ∧ IB wr W0.heap.size 5 .u8 ((kxor 54 KP).take t ++ List.replicate (hbl k - t) 0) ∧ IB wr (W0.heap.size + 1) 5 .u8 ((kxor 92 KP).take t ++ List.replicate (hbl k - t) 0) ∧ Mods Nix W0 wr) (fun i _ => hbl k - (intOf i).toNat)
  case atStart => exact ⟨0, Nat.zero_le _, rfl, by simpa using hI1, by simpa using hI2, hM2⟩
  case round =>
    clear hI1 hI2 hM2
    obtain ⟨t, ht, rfl, hI1, hI2, hM2⟩ := hrel
    by_cases h8 : t < hbl k
    · obtain ⟨z1, _, e1⟩ := hI1.cell t (by simp [hl54.out]; omega)
      obtain ⟨z2, _, e2⟩ := hI2.cell t (by simp [hl92.out]; omega)
      have f1 := hI1.free t
      have f2 := hI2.free t
      have q0 : (0 : Int) ≤ t := by omega
      have q1 : (t : Int) < hbl k := by omega
      by_cases hkt : t < nx
      · obtain ⟨bx, ox, rfl⟩ := hkS.addr (by omega)
        obtain ⟨y, hy9⟩ : ∃ y, Eqn y (ky.getD t 0) := ⟨_, ⟨rfl⟩⟩
        have e0 : wr.cell? ⟨bx, ox + t, none⟩ = some (.int .u8 y) := by rw [hy9.out]; exact hM2.cell (hkS.cell (getElem?_bv ky t (by rw [hkl.out]; exact hkt))) (fun f => f)
        have q2 : (t : Int) < nx := by omega
        have hcx := hkS.le
        go_wp2_with fail
        go_roundw
        case measure => simp [intOf]; omega
        case rel =>
          refine ⟨t + 1, h8, by go_num, ?_, ?_, (hM2.setCell (.inr (Nat.le_refl _)) _).setCell (.inr (Nat.le_succ _)) _⟩
          · have h9 := (hI1.set t (bits .xor .u8 y 54)).other (a := ⟨W0.heap.size + 1, t, none⟩) (.int .u8 (bits .xor .u8 y 92)) (by simp)
            rw [take_next (kxor 54 KP) t (hbl k) _ h8 (by rw [hl54.out]; exact h8) ⟨by rw [HA.out 54 t h8, if_pos hkt, hy9.out]⟩] at h9
            exact h9
          · have h9 := (hI2.other (a := ⟨W0.heap.size, t, none⟩) (.int .u8 (bits .xor .u8 y 54)) (by simp)).set t (bits .xor .u8 y 92)
            rw [take_next (kxor 92 KP) t (hbl k) _ h8 (by rw [hl92.out]; exact h8) ⟨by rw [HA.out 92 t h8, if_pos hkt, hy9.out]⟩] at h9
            exact h9
      · have q2 : ¬ (t : Int) < nx := by omega
        go_wp2_with fail
        go_roundw
        case measure => simp [intOf]; omega
        case rel =>
          refine ⟨t + 1, h8, by go_num, ?_, ?_, (hM2.setCell (.inr (Nat.le_refl _)) _).setCell (.inr (Nat.le_succ _)) _⟩
          · have h9 := (hI1.set t (bits .xor .u8 0 54)).other (a := ⟨W0.heap.size + 1, t, none⟩) (.int .u8 (bits .xor .u8 0 92)) (by simp)
            rw [take_next (kxor 54 KP) t (hbl k) _ h8 (by rw [hl54.out]; exact h8) ⟨by rw [HA.out 54 t h8, if_neg hkt]⟩] at h9
            exact h9
          · have h9 := (hI2.other (a := ⟨W0.heap.size, t, none⟩) (.int .u8 (bits .xor .u8 0 54)) (by simp)).set t (bits .xor .u8 0 92)
            rw [take_next (kxor 92 KP) t (hbl k) _ h8 (by rw [hl92.out]; exact h8) ⟨by rw [HA.out 92 t h8, if_neg hkt]⟩] at h9
            exact h9
    · obtain rfl : t = hbl k := by omega
      rw [Nat.sub_self, List.take_of_length_le (by rw [hl54.out]; exact Nat.le_refl _)] at hI1
      rw [Nat.sub_self, List.take_of_length_le (by rw [hl92.out]; exact Nat.le_refl _)] at hI2
      simp only [List.replicate_zero, List.append_nil] at hI1 hI2
      have hO1 : Own wr 5 1 (some ⟨W0.heap.size, 0, none⟩) (hbl k) (hbl k) (bv (kxor 54 KP)) := by
        have := Own.row (sz := 1) (n := hbl k) hI1.row.heap (by simp [hl54.out]) hq2
        simpa [bv] using this
      have hO2 : Own wr 5 1 (some ⟨W0.heap.size + 1, 0, none⟩) (hbl k) (hbl k) (bv (kxor 92 KP)) := by
        have := Own.row (sz := 1) (n := hbl k) hI2.row.heap (by simp [hl92.out]) hq2
        simpa [bv] using this
      have hyw := hy.mods (hM0.trans' hM2 (fun _ _ f => f)) (fun _ _ f => f)
      have hL1 : Lim (hbl k + nb) := hml.of (by omega)
      have hL2 : Lim (hbl k + hsz k) := ⟨by omega⟩
      have T1 : ∀ {a3 c3 w3}, AppOut wr w3 5 1 (some ⟨W0.heap.size, 0, none⟩) a3 (hbl k + nb) c3 nb (bv (kxor 54 KP) ++ bv m) → Calls Tryd.prog 26 #[.int .i64 k, .slice a3 (hbl k + nb) c3] w3 fun e w' => ∃ a' c', e = .returned (.slice a' (hsz k) c') ∧ SumOut w3 w' a' (hsz k) c' (hash k (kxor 54 KP ++ m)) := by
        intro a3 c3 w3 hA
        have h9 := hA.own.toSv
        rw [← bv_append] at h9
        exact f26 w3 k hk a3 _ c3 _ h9 (hml.of (by omega)) ((kxor_byt 54 (.inl rfl) KP hKB).append hmB)
      go_upto_region 17 with (first | (at_builtin; with_reducible refine wpList_app rfl (.tmp 52) (.tmp 53) ei22 rfl hO1 hyw rfl rfl (bv_one _) (lim_app hL1) hL1.maxLen ?_; intro a3 c3 w3 hA3; have T2 := T1 hA3) | (go_at_call 26; with_reducible refine T2.mono ?_; rintro e w4 ⟨a4, c4, rfl, hS4⟩))
      have hin : ∀ i, In (some (⟨W0.heap.size, 0, none⟩ : Addr)) i → i = W0.heap.size := by rintro i ⟨ad, e, rfl⟩; cases e; rfl
      have hin2 : ∀ i, In (some (⟨W0.heap.size + 1, 0, none⟩ : Addr)) i → i = W0.heap.size + 1 := by rintro i ⟨ad, e, rfl⟩; cases e; rfl
      have hM3 : Mods Nix W0 w3 := hM2.trans' hA3.mods (fun i hi e => by have := hin i e; omega)
      have hM4 : Mods Nix W0 w4 := hM3.trans' hS4.mods (fun _ _ f => f)
      have hO4 := (hO2.mods hA3.mods (fun i hi e => by have := hin i e; have := hin2 i hi; omega)).mods hS4.mods (fun _ _ f => f)
      have hS5 := hS4.own.toSv
      have T3 : ∀ {a3 c3 w3}, AppOut w4 w3 5 1 (some ⟨W0.heap.size + 1, 0, none⟩) a3 (hbl k + hsz k) c3 (hsz k) (bv (kxor 92 KP) ++ bv (hash k (kxor 54 KP ++ m))) → Calls Tryd.prog 26 #[.int .i64 k, .slice a3 (hbl k + hsz k) c3] w3 fun e w' => ∃ a' c', e = .returned (.slice a' (hsz k) c') ∧ SumOut w3 w' a' (hsz k) c' (hmac k l m) := by
        intro a3 c3 w3 hA
        have h9 := hA.own.toSv
        rw [← bv_append] at h9
        rw [hmac, hKey.out]
        exact f26 w3 k hk a3 _ c3 _ h9 (lim_c (by omega)) ((kxor_byt 92 (.inr rfl) KP hKB).append (hash_byt _ _))
      clear T1 T2
      go_wp2_with (first | (at_builtin; with_reducible refine wpList_app rfl (.tmp 57) (.tmp 58) ei22 rfl hO4 hS5 rfl rfl (bv_one _) (lim_app hL2) hL2.maxLen ?_; intro a5 c5 w5 hA5; have T4 := T3 hA5) | (go_at_call 26; with_reducible refine T4.mono ?_; rintro e w6 ⟨a6, c6, rfl, hS6⟩))
      go_ret
      have hM5 : Mods Nix w w5 := (hM0.trans' hM4 (fun _ _ f => f)).trans' hA5.mods (fun i hi e => by have := hin2 i e; have := hM0.size; omega)
      exact ⟨a6, c6, rfl, hS6.own, hS6.fresh.mono hM5.size, hM5.trans' hS6.mods (fun _ _ f => f)⟩
set_option maxRecDepth 100000 in
set_option maxHeartbeats 4000000 in
theorem f36_long (w : World) (k : Int) (hk : Kd k) (x : Option Addr) (n c : Nat) (l : List Int) (h : KeyIn w x n c l) (hn : hbl k < n) (y : Option Addr) (nb cb : Nat) (m : List Int) (hy : Sv w 5 1 y nb cb (bv m)) (hmB : Byt m) (hml : Lim (nb + 700)) :
    Calls Tryd.prog 36 #[.int .i64 k, .slice x n c, .slice y nb cb] w fun e w' => ∃ a' c', e = .returned (.slice a' (hsz k) c') ∧ SumOut w w' a' (hsz k) c' (hmac k l m) := by
  have hll : l.length = n := by have := h.sv.len; simpa [bv] using this
  have hmm : Eqn m.length nb := ⟨by have := hy.len; simpa [bv] using this⟩
  have hb0 := hbl_pos hk
  have hb8 : hbl k ≤ 128 := by rcases hbl_cases hk with e | e <;> omega
  have hs64 := hsz_le hk
  have hsb := hsz_hbl hk
  have hz0 : ((hbl k : Int) == 0) = false := by simp; omega
  obtain ⟨ky, hky⟩ : ∃ ky, Eqn ky (hash k l) := ⟨_, ⟨rfl⟩⟩
  obtain ⟨KP, hKP⟩ : ∃ KP, Eqn KP (kpad k ky) := ⟨_, ⟨rfl⟩⟩
  have hKey : Eqn (keyOf k l) KP := ⟨by rw [keyOf, if_pos (by omega), hKP.out, hky.out]⟩
  have hkb : Byt ky := by rw [hky.out]; exact hash_byt k l
  have T26 := f26 w k hk x n c l h.sv (h.lim.of (by omega)) h.byt
  rw [← hky.out] at T26
  have hlt : (hbl k : Int) < n := by omega
  have hLl := Eqn.mk hll
  clear hll
  go_enter Tryd.func36, Tryd.ntmps36
  go_upto_region 6 with (first | (go_at_call 30; with_reducible refine (f30 k _).mono ?_; rintro e w' ⟨rfl, rfl⟩) | (go_at_call 26; with_reducible refine T26.mono ?_; rintro e W0 ⟨x', cx, rfl, hS0⟩))
  have hM0 := hS0.mods
  have hkS : Sv W0 5 1 x' (hsz k) cx (bv ky) := hS0.own.toSv
  obtain ⟨nx, hnx⟩ : ∃ nx, Eqn nx (hsz k) := ⟨_, ⟨rfl⟩⟩
  rw [← hnx.out] at hkS ⊢
  have hnb : nx ≤ hbl k := by have := hnx.out; omega
  clear T26 hS0
  have hkl : Eqn ky.length nx := ⟨by have := hkS.len; simpa [bv] using this⟩
  have hKl : Eqn KP.length (hbl k) := ⟨by rw [hKP.out, kpad, List.length_append, List.length_replicate, hkl.out]; omega⟩
  have hKB : Byt KP := by
    rw [hKP.out]
    intro z hz
    rcases List.mem_append.1 hz with h1 | h1
    · exact hkb z h1
    · simp at h1; omega
  have hq1 : 1 * hbl k ≤ 281474976710656 := by omega
  have hq2 : hbl k ≤ maxLen := by simp only [maxLen]; omega
  go_upto_region 8 with (first | (with_reducible refine wpList_mk rfl (.tmp 24) (.tmp 24) ei22 rfl rfl (hbl k) rfl rfl rfl rfl hq1 hq2 ?_; intro _) | (with_reducible refine wpList_mk rfl (.tmp 26) (.tmp 26) ei22 rfl rfl (hbl k) rfl rfl rfl rfl hq1 hq2 ?_; intro _))
  obtain ⟨W2, hW2⟩ : ∃ W2, Eqn W2 ((W0.alloc (Obj.cells (Array.replicate (hbl k) (Value.int .u8 0)) 5)).alloc (Obj.cells (Array.replicate (hbl k) (Value.int .u8 0)) 5)) := ⟨_, ⟨rfl⟩⟩
  rw [← hW2.out]
  have hI1 : IB W2 W0.heap.size 5 .u8 (List.replicate (hbl k) 0) := by
    rw [hW2.out]
    have := (IB.new W0 (List.replicate (hbl k) 0) .u8 5).alloc (Obj.cells (Array.replicate (hbl k) (Value.int .u8 0)) 5)
    simpa using this
  have hI2 : IB W2 (W0.heap.size + 1) 5 .u8 (List.replicate (hbl k) 0) := by
    rw [hW2.out]
    have := IB.new (W0.alloc (Obj.cells (Array.replicate (hbl k) (Value.int .u8 0)) 5)) (List.replicate (hbl k) 0) .u8 5
    simpa using this
  have hM2 : Mods Nix W0 W2 := by rw [hW2.out]; exact ((Mods.refl Nix W0).alloc _).alloc _
  have hl54 : Eqn (kxor 54 KP).length (hbl k) := ⟨by rw [length_kxor, hKl.out]⟩
  have hl92 : Eqn (kxor 92 KP).length (hbl k) := ⟨by rw [length_kxor, hKl.out]⟩
  have hKPat : ∀ t, t < hbl k → KP.getD t 0 = if t < nx then ky.getD t 0 else 0 := by
    intro t ht
    rw [hKP.out, kpad]
    split
    · rw [getD_front _ _ _ (by rw [hkl.out]; assumption)]
    · simp only [List.getD]
      rw [List.getElem?_append_right (by rw [hkl.out]; omega)]
      simp only [List.getElem?_replicate]
      split <;> rfl
  have hat : ∀ (X : Int) t, t < hbl k → (kxor X KP).getD t 0 = bits .xor .u8 (KP.getD t 0) X := by
    intro X t ht
    rw [List.getD, kxor_at X KP t (by rw [hKl.out]; exact ht)]
    rfl
  have HA : KAt k nx ky KP := ⟨fun X t ht => by rw [hat X t ht, hKPat t ht]⟩
  clear hKPat hat
  go_wp2_with fail
  go_loopw [10] (fun i wr => ∃ t : Nat, t ≤ hbl k ∧ i = .int .i64 t ∧ IB wr W0.heap.size 5 .u8 ((kxor 54 KP).take t ++ List.replicate (hbl k - t) 0) ∧ IB wr (W0.heap.size + 1) 5 .u8 ((kxor 92 KP).take t ++ List.replicate (hbl k - t) 0) ∧ Mods Nix W0 wr) (fun i _ => hbl k - (intOf i).toNat)
  case atStart => exact ⟨0, Nat.zero_le _, rfl, by simpa using hI1, by simpa using hI2, hM2⟩
  case round =>
    clear hI1 hI2 hM2
    obtain ⟨t, ht, rfl, hI1, hI2, hM2⟩ := hrel
    by_cases h8 : t < hbl k
    · obtain ⟨z1, _, e1⟩ := hI1.cell t (by simp [hl54.out]; omega)
      obtain ⟨z2, _, e2⟩ := hI2.cell t (by simp [hl92.out]; omega)
      have f1 := hI1.free t
      have f2 := hI2.free t
      have q0 : (0 : Int) ≤ t := by omega
      have q1 : (t : Int) < hbl k := by omega
      by_cases hkt : t < nx
      · obtain ⟨bx, ox, rfl⟩ := hkS.addr (by omega)
        obtain ⟨y, hy9⟩ : ∃ y, Eqn y (ky.getD t 0) := ⟨_, ⟨rfl⟩⟩
        have e0 : wr.cell? ⟨bx, ox + t, none⟩ = some (.int .u8 y) := by rw [hy9.out]; exact hM2.cell (hkS.cell (getElem?_bv ky t (by rw [hkl.out]; exact hkt))) (fun f => f)
        have q2 : (t : Int) < nx := by omega
        have hcx := hkS.le
        go_wp2_with fail
        go_roundw
        case measure => simp [intOf]; omega
        case rel =>
          refine ⟨t + 1, h8, by go_num, ?_, ?_, (hM2.setCell (.inr (Nat.le_refl _)) _).setCell (.inr (Nat.le_succ _)) _⟩
          · have h9 := (hI1.set t (bits .xor .u8 y 54)).other (a := ⟨W0.heap.size + 1, t, none⟩) (.int .u8 (bits .xor .u8 y 92)) (by simp)
            rw [take_next (kxor 54 KP) t (hbl k) _ h8 (by rw [hl54.out]; exact h8) ⟨by rw [HA.out 54 t h8, if_pos hkt, hy9.out]⟩] at h9
            exact h9
          · have h9 := (hI2.other (a := ⟨W0.heap.size, t, none⟩) (.int .u8 (bits .xor .u8 y 54)) (by simp)).set t (bits .xor .u8 y 92)
            rw [take_next (kxor 92 KP) t (hbl k) _ h8 (by rw [hl92.out]; exact h8) ⟨by rw [HA.out 92 t h8, if_pos hkt, hy9.out]⟩] at h9
            exact h9
      · have q2 : ¬ (t : Int) < nx := by omega
        go_wp2_with fail
        go_roundw
        case measure => simp [intOf]; omega
        case rel =>
          refine ⟨t + 1, h8, by go_num, ?_, ?_, (hM2.setCell (.inr (Nat.le_refl _)) _).setCell (.inr (Nat.le_succ _)) _⟩
          · have h9 := (hI1.set t (bits .xor .u8 0 54)).other (a := ⟨W0.heap.size + 1, t, none⟩) (.int .u8 (bits .xor .u8 0 92)) (by simp)
            rw [take_next (kxor 54 KP) t (hbl k) _ h8 (by rw [hl54.out]; exact h8) ⟨by rw [HA.out 54 t h8, if_neg hkt]⟩] at h9
            exact h9
          · have h9 := (hI2.other (a := ⟨W0.heap.size, t, none⟩) (.int .u8 (bits .xor .u8 0 54)) (by simp)).set t (bits .xor .u8 0 92)
            rw [take_next (kxor 92 KP) t (hbl k) _ h8 (by rw [hl92.out]; exact h8) ⟨by rw [HA.out 92 t h8, if_neg hkt]⟩] at h9
            exact h9
    · obtain rfl : t = hbl k := by omega
      rw [Nat.sub_self, List.take_of_length_le (by rw [hl54.out]; exact Nat.le_refl _)] at hI1
      rw [Nat.sub_self, List.take_of_length_le (by rw [hl92.out]; exact Nat.le_refl _)] at hI2
      simp only [List.replicate_zero, List.append_nil] at hI1 hI2
      have hO1 : Own wr 5 1 (some ⟨W0.heap.size, 0, none⟩) (hbl k) (hbl k) (bv (kxor 54 KP)) := by
        have := Own.row (sz := 1) (n := hbl k) hI1.row.heap (by simp [hl54.out]) hq2
        simpa [bv] using this
      have hO2 : Own wr 5 1 (some ⟨W0.heap.size + 1, 0, none⟩) (hbl k) (hbl k) (bv (kxor 92 KP)) := by
        have := Own.row (sz := 1) (n := hbl k) hI2.row.heap (by simp [hl92.out]) hq2
        simpa [bv] using this
      have hyw := hy.mods (hM0.trans' hM2 (fun _ _ f => f)) (fun _ _ f => f)
      have hL1 : Lim (hbl k + nb) := hml.of (by omega)
      have hL2 : Lim (hbl k + hsz k) := ⟨by omega⟩
      have T1 : ∀ {a3 c3 w3}, AppOut wr w3 5 1 (some ⟨W0.heap.size, 0, none⟩) a3 (hbl k + nb) c3 nb (bv (kxor 54 KP) ++ bv m) → Calls Tryd.prog 26 #[.int .i64 k, .slice a3 (hbl k + nb) c3] w3 fun e w' => ∃ a' c', e = .returned (.slice a' (hsz k) c') ∧ SumOut w3 w' a' (hsz k) c' (hash k (kxor 54 KP ++ m)) := by
        intro a3 c3 w3 hA
        have h9 := hA.own.toSv
        rw [← bv_append] at h9
        exact f26 w3 k hk a3 _ c3 _ h9 (hml.of (by omega)) ((kxor_byt 54 (.inl rfl) KP hKB).append hmB)
      go_upto_region 17 with (first | (at_builtin; with_reducible refine wpList_app rfl (.tmp 52) (.tmp 53) ei22 rfl hO1 hyw rfl rfl (bv_one _) (lim_app hL1) hL1.maxLen ?_; intro a3 c3 w3 hA3; have T2 := T1 hA3) | (go_at_call 26; with_reducible refine T2.mono ?_; rintro e w4 ⟨a4, c4, rfl, hS4⟩))
      have hin : ∀ i, In (some (⟨W0.heap.size, 0, none⟩ : Addr)) i → i = W0.heap.size := by rintro i ⟨ad, e, rfl⟩; cases e; rfl
      have hin2 : ∀ i, In (some (⟨W0.heap.size + 1, 0, none⟩ : Addr)) i → i = W0.heap.size + 1 := by rintro i ⟨ad, e, rfl⟩; cases e; rfl
      have hM3 : Mods Nix W0 w3 := hM2.trans' hA3.mods (fun i hi e => by have := hin i e; omega)
      have hM4 : Mods Nix W0 w4 := hM3.trans' hS4.mods (fun _ _ f => f)
      have hO4 := (hO2.mods hA3.mods (fun i hi e => by have := hin i e; have := hin2 i hi; omega)).mods hS4.mods (fun _ _ f => f)
      have hS5 := hS4.own.toSv
      have T3 : ∀ {a3 c3 w3}, AppOut w4 w3 5 1 (some ⟨W0.heap.size + 1, 0, none⟩) a3 (hbl k + hsz k) c3 (hsz k) (bv (kxor 92 KP) ++ bv (hash k (kxor 54 KP ++ m))) → Calls Tryd.prog 26 #[.int .i64 k, .slice a3 (hbl k + hsz k) c3] w3 fun e w' => ∃ a' c', e = .returned (.slice a' (hsz k) c') ∧ SumOut w3 w' a' (hsz k) c' (hmac k l m) := by
        intro a3 c3 w3 hA
        have h9 := hA.own.toSv
        rw [← bv_append] at h9
        rw [hmac, hKey.out]
        exact f26 w3 k hk a3 _ c3 _ h9 (lim_c (by omega)) ((kxor_byt 92 (.inr rfl) KP hKB).append (hash_byt _ _))
      clear T1 T2
      go_wp2_with (first | (at_builtin; with_reducible refine wpList_app rfl (.tmp 57) (.tmp 58) ei22 rfl hO4 hS5 rfl rfl (bv_one _) (lim_app hL2) hL2.maxLen ?_; intro a5 c5 w5 hA5; have T4 := T3 hA5) | (go_at_call 26; with_reducible refine T4.mono ?_; rintro e w6 ⟨a6, c6, rfl, hS6⟩))
      go_ret
      have hM5 : Mods Nix w w5 := (hM0.trans' hM4 (fun _ _ f => f)).trans' hA5.mods (fun i hi e => by have := hin2 i e; have := hM0.size; omega)
      exact ⟨a6, c6, rfl, hS6.own, hS6.fresh.mono hM5.size, hM5.trans' hS6.mods (fun _ _ f => f)⟩
/-- The reference's HMAC. -/
theorem f36 (w : World) (k : Int) (hk : Kd k) (x : Option Addr) (n c : Nat) (l : List Int) (h : KeyIn w x n c l) (y : Option Addr) (nb cb : Nat) (m : List Int) (hy : Sv w 5 1 y nb cb (bv m)) (hmB : Byt m) (hml : Lim (nb + 700)) :
    Calls Tryd.prog 36 #[.int .i64 k, .slice x n c, .slice y nb cb] w fun e w' => ∃ a' c', e = .returned (.slice a' (hsz k) c') ∧ SumOut w w' a' (hsz k) c' (hmac k l m) := by
  by_cases hn : hbl k < n
  · exact f36_long w k hk x n c l h hn y nb cb m hy hmB hml
  · exact f36_short w k hk x n c l h (by omega) y nb cb m hy hmB hml
theorem f36n (w : World) (k : Int) (hk : NoKd k) (x : Option Addr) (n c : Nat) (y : Option Addr) (nb cb : Nat) :
    Calls Tryd.prog 36 #[.int .i64 k, .slice x n c, .slice y nb cb] w fun e w' => e = .returned (.slice none 0 0) ∧ w = w' := by
  have T : ∀ w, Calls Tryd.prog 30 #[.int .i64 k] w fun e w' => e = .returned (.int .i64 0) ∧ w = w' := fun w => by
    have := f30 k w
    rwa [hbl_no hk] at this
  go_enter Tryd.func36, Tryd.ntmps36
  go_wp2_with (go_at_call 30; with_reducible refine (T _).mono ?_; rintro e w' ⟨rfl, rfl⟩)
  go_ret
  exact ⟨rfl, rfl⟩
end Go.Proofs.YtladijfaeieidaaDoor
