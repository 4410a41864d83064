/- The walk of AuditTaken: it answers true. Condition: the table of constants stands. -/
import Derived.Test.YtladijfaeieidaaDoorA9
import Derived.Test.YtladijfaeieidaaDoorA10
import Derived.Deep.Cut

namespace Go.Proofs.YtladijfaeieidaaDoor
open Go.RowKit

theorem lim_c' {n : Nat} (h : n ≤ 1000) : Lim (n + 52) := ⟨by omega⟩
theorem byt_lessN {l : List Int} (h : Byt l) (i : Nat) : ∀ k, Byt (lessN l i k)
  | 0 => Byt.nil
  | k + 1 => (byt_lessN h i k).append (by
      split
      · exact Byt.nil
      · exact h.sub _ _)
theorem byt_swN {l : List Int} (h : Byt l) (i j : Nat) : ∀ k, Byt (swN l i j k)
  | 0 => Byt.nil
  | k + 1 => (byt_swN h i j k).append (h.sub _ _)
theorem AppOut.where {w w' : World} {e sz : Nat} {a a' : Option Addr} {k c' m : Nat} {zs : List Value} (h : AppOut w w' e sz a a' k c' m zs) (b : Nat) (hb : In a' b) : In a b ∨ w.heap.size ≤ b := by
  obtain ⟨ad, e1, e2⟩ := hb
  rcases h.fresh with ⟨ad1, ad2, e3, e4, e5⟩ | hf
  · rw [e4] at e1; cases e1
    exact .inl ⟨ad1, e3, by rw [e5, e2]⟩
  · exact .inr (by have := hf ad e1; omega)
theorem Sv.low {w : World} {t sz : Nat} {a : Option Addr} {n c : Nat} {xs : List Value} (h : Sv w t sz a n c xs) : ∀ b, In a b → b < w.heap.size := fun b ⟨ad, e, hb⟩ => by have := h.lt ad e; omega
theorem sep1 {w w' : World} {a1 a2 a2' : Option Addr} {n1 c1 k c' m : Nat} {xs zs : List Value} (h : AppOut w w' 5 1 a2 a2' k c' m zs) (o1 : Own w 5 1 a1 n1 c1 xs) (hs : ∀ b, In a1 b → ¬ In a2 b) : ∀ b, In a1 b → ¬ In a2' b := fun b h1 h2 => by
  rcases h.where b h2 with h3 | h3
  · exact hs b h1 h3
  · have := o1.toSv.low b h1; omega
theorem sep2 {w w' : World} {a1 a1' a2 : Option Addr} {n2 c2 k c' m : Nat} {xs zs : List Value} (h : AppOut w w' 5 1 a1 a1' k c' m zs) (o2 : Own w 5 1 a2 n2 c2 xs) (hs : ∀ b, In a1 b → ¬ In a2 b) : ∀ b, In a1' b → ¬ In a2 b := fun b h1 h2 => by
  rcases h.where b h1 with h3 | h3
  · exact hs b h3 h2
  · have := o2.toSv.low b h2; omega
set_option maxRecDepth 100000 in
set_option maxHeartbeats 4000000 in
/-- The rest of AuditTaken: two logs out of one. -/
theorem f12 (w : World) (hg : GK w) (a : Option Addr) (n c : Nat) (es : List Ent) (h : EsIn w a n c es) (i j : Int) (hi : -9223372036854775808 ≤ i ∧ i ≤ 9223372036854775807) (hj : -9223372036854775808 ≤ j ∧ j ≤ 9223372036854775807) :
    Calls Tryd.prog 12 #[.slice a n c, .int .i64 i, .int .i64 j] w fun e w' => e = .returned (.bool true) ∧ Mods Nix w w' := by
  have T42 := f42 w hg
  have T49 : Behind w fun w1 => Calls Tryd.prog 49 #[.slice a n c, .int .i64 8] w1 fun e w' => ∃ a' n' c' l m, e = .returned (.slice a' n' c') ∧ SvOut w1 w' a' n' c' l ∧ Lg l m ∧ m ≤ 8 ∧ Eqn n' (52 * m) :=
    ⟨fun w1 hm => (f49 w1 a n c es ⟨h.len, h.le, h.cap, h.lim, fun i e he => by
      obtain ⟨g, o, e1, hA⟩ := h.ex i e he
      exact ⟨g, o, e1, hA.mods hm⟩⟩).mono fun e w' ⟨a', n', c', l, m, h1, h2, h3, h4, h5⟩ => ⟨a', n', c', l, m, h1, h2, h3, h4, ⟨h5⟩⟩⟩
  clear h
  go_enter Tryd.func12, Tryd.ntmps12
  go_upto_region 3 with (first | (go_at_call 42; with_reducible refine T42.mono ?_; rintro e w0 ⟨rfl, hM0⟩; have T5 := T49.out _ hM0) | (go_at_call 49; with_reducible refine T5.mono ?_; rintro e w1 ⟨aL, nL, cL, l, N, rfl, hS, hL, hN, hNe⟩))
  have hM1 : Mods Nix w w1 := hM0.trans' hS.mods (fun _ _ f => f)
  have hq : ((nL : Int) / 52) = N := by rw [hNe.out]; omega
  have hcap := hS.sv.le
  have hN8 : (N : Int) ≤ 8 := by omega
  clear T42 T49 T5
  go_upto_region 4 with fail
  by_cases h1 : i < 0
  · go_wp2_with fail
    go_ret
    exact ⟨rfl, hM1⟩
  by_cases h2 : j < 0
  · go_wp2_with fail
    go_ret
    exact ⟨rfl, hM1⟩
  by_cases h3 : (N : Int) ≤ i
  · go_wp2_with fail
    go_ret
    exact ⟨rfl, hM1⟩
  by_cases h4 : (N : Int) ≤ j
  · go_wp2_with fail
    go_ret
    exact ⟨rfl, hM1⟩
  by_cases h5 : i = j
  · have h5' : (i == j) = true := by simpa using h5
    clear h5
    go_wp2_with fail
    go_ret
    exact ⟨rfl, hM1⟩
  have h5' : (i == j) = false := by simpa using h5
  obtain ⟨I, rfl⟩ := Int.eq_ofNat_of_zero_le (show 0 ≤ i by omega)
  obtain ⟨J, rfl⟩ := Int.eq_ofNat_of_zero_le (show 0 ≤ j by omega)
  have hIJ : I ≠ J := by omega
  have hI : I < N := by omega
  have hJ : J < N := by omega
  clear h5
  have hll : Eqn l.length (52 * N) := ⟨hL.len⟩
  have hB := hL.byt
  have hlt : ∀ i, In aL i → i < w1.heap.size := fun i ⟨ad, e, hb⟩ => by have := hS.sv.lt ad e; omega
  have hS1 := hS.sv
  have part : ∀ q, q < N → ∃ a', (∀ w, (Instr.sliceAt 22 (.slice aL nL cL) (some (.int .i64 (52 * (q : Int)))) (some (.int .i64 (52 * (q : Int) + 52))) none).run Tryd.prog w = .ok (.slice a' 52 (cL - 52 * q)) w) ∧ ∀ w, Sv w 5 1 aL nL cL (bv l) → Sv w 5 1 a' 52 (cL - 52 * q) (bv (piece l 52 q)) := by
    intro q hq
    obtain ⟨a', h1, h2, -⟩ := sub_facts (a := aL) (n := nL) (c := cL) (52 * q) (52 * q + 52) (52 * (q : Int)) (52 * (q : Int) + 52) (by omega) (by omega) (by omega) (by rw [hNe.out]; omega) hcap
    rw [show 52 * q + 52 - 52 * q = 52 from by omega] at h1 h2
    exact ⟨a', h1, fun w h => h2 w l h⟩
  obtain ⟨aI, kI, vI⟩ := part I hI
  obtain ⟨aJ, kJ, vJ⟩ := part J hJ
  have LL := fun (t : Nat) (h : t ≤ N) => length_lessN (i := I) hll.out t h
  have LS := fun (t : Nat) (h : t ≤ N) => length_swN hll.out hI hJ t h
  have hz1 := hM1.size
  clear hS h5'
  go_wp2_with fail
  go_loopw [10, 11, 12] (fun o u i wr => ∃ (k n1 n2 c1 c2 : Nat) (a1 a2 : Option Addr), k ≤ N ∧ i = .int .i64 k ∧ o = .slice a1 n1 c1 ∧ u = .slice a2 n2 c2 ∧ Eqn n1 (lessN l I k).length ∧ Eqn n2 (swN l I J k).length ∧ Own wr 5 1 a1 n1 c1 (bv (lessN l I k)) ∧ Own wr 5 1 a2 n2 c2 (bv (swN l I J k)) ∧ New w1.heap.size a1 ∧ New w1.heap.size a2 ∧ (∀ b, In a1 b → ¬ In a2 b) ∧ Mods Nix w1 wr) (fun _ _ i _ => N - (intOf i).toNat)
  case atStart => exact ⟨0, 0, 0, 0, 0, none, none, Nat.zero_le _, rfl, rfl, rfl, ⟨rfl⟩, ⟨rfl⟩, own_nil _, own_nil _, New.none _, New.none _, fun b ⟨ad, e, _⟩ => (by cases e), Mods.refl _ _⟩
  case round =>
    obtain ⟨k, n1, n2, c1, c2, a1, a2, hk, rfl, rfl, rfl, hn1, hn2, hO1, hO2, hN1, hN2, hsep, hM⟩ := hrel
    by_cases hkN : k < N
    · have hSr := hS1.mods hM (fun _ _ f => f)
      obtain ⟨aK, kK, vK⟩ := part k hkN
      have i2 : (k : Int) < N := by omega
      have b1 : n1 ≤ 1000 := by rw [hn1.out, LL k hk]; split <;> omega
      have b2 : n2 ≤ 1000 := by rw [hn2.out, LS k hk]; omega
      have hL1 : Lim (n1 + 52) := lim_c' b1
      have hL2 : Lim (n2 + 52) := lim_c' b2
      clear b1 b2 LL LS part
      have keepL : ∀ {a1 : Option Addr}, New w1.heap.size a1 → ∀ i, In aL i → ¬ In a1 i := fun hN i h1 h2 => by
        obtain ⟨ad, e, hb⟩ := h2
        have := hN ad e
        have := hlt i h1
        omega
      have keep1 : ∀ {w5 : World} {a5 : Option Addr} {k5 c5 m : Nat} {zs : List Value}, AppOut wr w5 5 1 a1 a5 k5 c5 m zs → Own w5 5 1 a2 n2 c2 (bv (swN l I J k)) ∧ Sv w5 5 1 aL nL cL (bv l) :=
        fun h => ⟨hO2.mods h.mods (fun i hi hi2 => hsep i hi2 hi), hSr.mods h.mods (fun i hi => keepL hN1 i hi)⟩
      have mm : ∀ {w5 w6 : World} {a5 a6 : Option Addr} {k5 c5 m : Nat} {zs : List Value}, Mods Nix w1 w5 → New w1.heap.size a5 → AppOut w5 w6 5 1 a5 a6 k5 c5 m zs → Mods Nix w1 w6 := fun hm hN h => hm.trans' h.mods (fun i hi ⟨ad, e, hb⟩ => by have := hN ad e; omega)
      have hK1 := vK wr hSr
      by_cases e1 : k = I
      · subst e1
        have hX := vJ wr hSr
        have hkJ : ((k : Int) == J) = false := by simp; omega
        clear kI vI hIJ
        go_wp2_with (first | (at_builtin; with_reducible refine wpList_app rfl (.tmp 85) (.tmp 86) ei22 rfl hO2 hX rfl rfl (bv_one _) (lim_app hL2) hL2.maxLen ?_; intro a6 c6 w6 hA6))
        go_roundw
        case measure => simp [intOf]; omega
        case rel =>
          refine ⟨k + 1, n1, n2 + 52, c1, c6, a1, a6, hkN, by go_num, rfl, rfl, ⟨?_⟩, ⟨?_⟩, ?_, ?_, hN1, hA6.new hN2 hM.size, sep1 hA6 hO1 hsep, mm hM hN2 hA6⟩
          · rw [hn1.out, lessN, if_pos rfl, List.append_nil]
          · rw [hn2.out, swN, if_pos rfl, List.length_append, length_piece hll.out hJ]
          · rw [lessN, if_pos rfl, List.append_nil]
            exact hO1.mods hA6.mods (fun i hi hi2 => hsep i hi hi2)
          · rw [swN, if_pos rfl, bv_append]
            exact hA6.own
      · have hkI : ((k : Int) == I) = false := by simp; omega
        have hkI' : ((k : Int) != I) = true := by simp; omega
        by_cases e2 : k = J
        · subst e2
          clear kJ vJ
          go_wp2_with (first | (at_builtin; with_reducible refine wpList_app rfl (.tmp 61) (.tmp 62) ei22 rfl hO1 hK1 rfl rfl (bv_one _) (lim_app hL1) hL1.maxLen ?_; intro a5 c5 w5 hA5; have hP := keep1 hA5; have hX := vI _ hP.2) | (at_builtin; with_reducible refine wpList_app rfl (.tmp 85) (.tmp 86) ei22 rfl hP.1 hX rfl rfl (bv_one _) (lim_app hL2) hL2.maxLen ?_; intro a6 c6 w6 hA6))
          go_roundw
          case measure => simp [intOf]; omega
          case rel =>
            have hM5 := mm hM hN1 hA5
            have hs5 := sep2 hA5 hO2 hsep
            refine ⟨k + 1, n1 + 52, n2 + 52, c5, c6, a5, a6, hkN, by go_num, rfl, rfl, ⟨?_⟩, ⟨?_⟩, ?_, ?_, hA5.new hN1 hM.size, hA6.new hN2 hM5.size, sep1 hA6 hA5.own hs5, mm hM5 hN2 hA6⟩
            · rw [hn1.out, lessN, if_neg e1, List.length_append, length_piece hll.out hkN]
            · rw [hn2.out, swN, if_neg e1, if_pos rfl, List.length_append, length_piece hll.out hI]
            · rw [lessN, if_neg e1, bv_append]
              exact hA5.own.mods hA6.mods (fun i hi hi2 => hs5 i hi hi2)
            · rw [swN, if_neg e1, if_pos rfl, bv_append]
              exact hA6.own
        · have hkJ : ((k : Int) == J) = false := by simp; omega
          go_wp2_with (first | (at_builtin; with_reducible refine wpList_app rfl (.tmp 61) (.tmp 62) ei22 rfl hO1 hK1 rfl rfl (bv_one _) (lim_app hL1) hL1.maxLen ?_; intro a5 c5 w5 hA5; have hP := keep1 hA5; have hX := vK _ hP.2) | (at_builtin; with_reducible refine wpList_app rfl (.tmp 85) (.tmp 86) ei22 rfl hP.1 hX rfl rfl (bv_one _) (lim_app hL2) hL2.maxLen ?_; intro a6 c6 w6 hA6))
          go_roundw
          case measure => simp [intOf]; omega
          case rel =>
            have hM5 := mm hM hN1 hA5
            have hs5 := sep2 hA5 hO2 hsep
            refine ⟨k + 1, n1 + 52, n2 + 52, c5, c6, a5, a6, hkN, by go_num, rfl, rfl, ⟨?_⟩, ⟨?_⟩, ?_, ?_, hA5.new hN1 hM.size, hA6.new hN2 hM5.size, sep1 hA6 hA5.own hs5, mm hM5 hN2 hA6⟩
            · rw [hn1.out, lessN, if_neg e1, List.length_append, length_piece hll.out hkN]
            · rw [hn2.out, swN, if_neg e1, if_neg e2, List.length_append, length_piece hll.out hkN]
            · rw [lessN, if_neg e1, bv_append]
              exact hA5.own.mods hA6.mods (fun i hi hi2 => hs5 i hi hi2)
            · rw [swN, if_neg e1, if_neg e2, bv_append]
              exact hA6.own
    · obtain rfl : k = N := by omega
      have hgr := hg.mods (hM1.trans' hM (fun _ _ f => f)) (fun f => f)
      obtain ⟨V, hV⟩ : ∃ V, Eqn V ((I : Int) == (k : Int) - 1) := ⟨_, ⟨rfl⟩⟩
      have b1 : n1 ≤ 1000 := by rw [hn1.out, LL k hk]; split <;> omega
      have b2 : n2 ≤ 1000 := by rw [hn2.out, LS k hk]; omega
      have T45a : Calls Tryd.prog 45 #[.slice a1 n1 c1] wr fun e w' => ∃ m1 : Nat, e = .returned (.tuple #[.int .i64 m1, .bool V]) ∧ Mods Nix wr w' := by
        refine (f45 wr hgr a1 n1 c1 _ (by omega) (byt_lessN hB I k) hO1.toSv).mono ?_
        rintro e w' ⟨m1, rfl, hC, hm⟩
        have e9 := less_whole hL (by omega) hI hC
        rw [← hn1.out] at e9
        refine ⟨m1, ?_, hm⟩
        rw [e9, hV.out]
        have : decide (I + 1 = k) = ((I : Int) == (k : Int) - 1) := by rw [Bool.eq_iff_iff, beq_iff_eq, decide_eq_true_iff]; omega
        rw [this]
      have T45b : Behind wr fun w5 => Calls Tryd.prog 45 #[.slice a2 n2 c2] w5 fun e w' => ∃ m2 : Nat, e = .returned (.tuple #[.int .i64 m2, .bool false]) ∧ Mods Nix w5 w' := ⟨fun w5 hm5 => by
        refine (f45 w5 (hgr.mods hm5 (fun f => f)) a2 n2 c2 _ (by omega) (byt_swN hB I J k) (hO2.toSv.mods hm5 (fun _ _ f => f))).mono ?_
        rintro e w' ⟨m2, rfl, hC, hm⟩
        have e9 := sw_whole hL (by omega) hI hJ hIJ hC
        rw [← hn2.out] at e9
        exact ⟨m2, by rw [e9], hm⟩⟩
      have hV' : ((I : Int) == (k : Int) - 1) = V := hV.out.symm
      clear LL LS part kI vI kJ vJ b1 b2 hsep hN1 hN2 hO1 hO2 hn1 hn2 hV hq
      go_wp2_with (first | (go_at_call 45; with_reducible refine T45a.mono ?_; rintro e w5 ⟨m1, rfl, hM5⟩; have T6 := T45b.out _ hM5) | (go_at_call 45; with_reducible refine T6.mono ?_; rintro e w6 ⟨m2, rfl, hM6⟩))
      go_ret
      exact ⟨rfl, ((hM1.trans' hM (fun _ _ f => f)).trans' hM5 (fun _ _ f => f)).trans' hM6 (fun _ _ f => f)⟩
end Go.Proofs.YtladijfaeieidaaDoor
