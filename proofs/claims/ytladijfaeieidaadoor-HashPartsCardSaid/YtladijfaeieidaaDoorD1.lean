/- Contracts of the reference hashes: padding (pad). Conditions: a length that an append may come to. -/
import Derived.Test.YtladijfaeieidaaDoorC13
import Derived.Deep.Cut
namespace Go.Proofs.YtladijfaeieidaaDoor
open Go.RowKit

/-- A slice's length. -/
def lenV : Value → Nat
  | .slice _ n _ => n
  | _ => 0
set_option maxHeartbeats 4000000 in
set_option maxRecDepth 100000 in
theorem f125_64 (w : World) (a : Option Addr) (n c : Nat) (l : List Int) (hs : Sv w 5 1 a n c (bv l)) (hl : Lim (n + 300)) :
    Calls Tryd.prog 125 #[.slice a n c, .int .i64 64, .int .i64 8] w fun e w' => ∃ a' k' c', e = .returned (.slice a' k' c') ∧ k' = (l ++ padd 64 8 l.length).length ∧ SumOut w w' a' k' c' (l ++ padd 64 8 l.length) := by
  have hnl : Eqn l.length n := ⟨by have := hs.len; simpa [bv] using this⟩
  have hL0 : Lim (0 + n) := hl.of (by omega)
  have hL1 : Lim (n + 1) := hl.of (by omega)
  have hl1 := fun (w : World) => (own_lit w (bv [128]) 5 1 rfl (by simp only [maxLen]; omega)).toSv
  have hl2 := fun (w : World) => (own_lit w (bv [0]) 5 1 rfl (by simp only [maxLen]; omega)).toSv
  go_enter Tryd.func125, Tryd.ntmps125
  go_upto_region 2 with (at_builtin; refine wpList_app rfl (.const (.slice none 0 0)) (.tmp 11) ei22 rfl (own_nil _) hs rfl rfl (bv_one _) (lim_app hL0) hL0.maxLen ?_; intro a1 c1 w1 hO1)
  have hM1 : Mods Nix w w1 := hO1.mods.mono (fun i _ ⟨ad, e, _⟩ => by cases e)
  have hN1 : New w.heap.size a1 := hO1.new (New.none _) (Nat.le_refl _)
  have hA0 : Own w1 5 1 a1 n c1 (bv l) := by have := hO1.own; simpa [bv] using this
  have hA1 : Own (w1.alloc (.cells (bv [128]).toArray 5)) 5 1 a1 n c1 (bv l) := hA0.mods (alloc_mods _ _) (fun _ _ f => f)
  clear hO1 hA0
  go_upto_region 3 with (at_builtin; refine wpList_app rfl (.tmp 13) (.tmp 14) ei22 rfl hA1 (hl1 w1) rfl rfl (bv_one _) (lim_app hL1) hL1.maxLen ?_; intro a2 c2 w2 hO2)
  have hN2 : New w.heap.size a2 := hO2.new hN1 (by have := hM1.size; simp; omega)
  have hM2 : Mods Nix w w2 := (hM1.alloc _).trans' hO2.mods (fun i hi ⟨ad, e, hb⟩ => by have := hN1 ad e; omega)
  have hA2 : Own w2 5 1 a2 (n + 1) c2 (bv (l ++ [128])) := by rw [bv_append]; exact hO2.own
  clear hO2 hA1
  obtain ⟨z, hz⟩ : ∃ z, Eqn z (zer 64 8 n) := ⟨_, ⟨rfl⟩⟩
  have hz64 : z < 64 := by rw [hz.out, zer]; omega
  go_wp2_with fail
  go_loopw [7] (fun o wr => ∃ (j : Nat) (a' : Option Addr) (c' : Nat), j ≤ z ∧ o = .slice a' (n + 1 + j) c' ∧ Own wr 5 1 a' (n + 1 + j) c' (bv ((l ++ [128]) ++ List.replicate j 0)) ∧ New w.heap.size a' ∧ Mods Nix w wr) (fun o _ => (n + 1 + z) - lenV o)
  case atStart => exact ⟨0, a2, c2, Nat.zero_le _, rfl, by simpa using hA2, hN2, hM2⟩
  case round =>
    obtain ⟨j, a', c', hj, rfl, hA, hN, hM⟩ := hrel
    have hL2 : Lim (n + 1 + j + 1) := hl.of (by omega)
    by_cases h8 : j < z
    · have hc : ¬ ((n : Int) + 1 + j) % 64 = 56 := by have := hz.out; simp only [zer] at this; omega
      have hA3 : Own (wr.alloc (.cells (bv [0]).toArray 5)) 5 1 a' (n + 1 + j) c' (bv ((l ++ [128]) ++ List.replicate j 0)) := hA.mods (alloc_mods _ _) (fun _ _ f => f)
      go_wp2_with (at_builtin; refine wpList_app rfl (.tmp 24) (.tmp 25) ei22 rfl hA3 (hl2 wr) rfl rfl (bv_one _) (lim_app hL2) hL2.maxLen ?_; intro a5 c5 w5 hO5)
      go_roundw
      case measure => simp only [lenV]; omega
      case rel =>
        refine ⟨j + 1, a5, c5, h8, rfl, ?_, hO5.new hN (by have := hM.size; simp; omega), (hM.alloc _).trans' hO5.mods (fun i hi ⟨ad, e, hb⟩ => by have := hN ad e; omega)⟩
        have e : (l ++ [128]) ++ List.replicate (j + 1) 0 = ((l ++ [128]) ++ List.replicate j 0) ++ [(0 : Int)] := by rw [List.replicate_succ', List.append_assoc, List.append_assoc, List.append_assoc]
        rw [e, bv_append]
        exact hO5.own
    · obtain rfl : j = z := by omega
      have hc : ((n : Int) + 1 + j) % 64 = 56 := by have := hz.out; simp only [zer] at this; omega
      have hn8 : Eqn (IntKind.u64.wrap (IntKind.u64.wrap (n : Int) * 8)) (8 * (n : Int)) := ⟨by have := hl.le; simp only [IntKind.wrap, IntKind.bits, IntKind.signed]; simp; omega⟩
      go_upto_region 7 with (first | (with_reducible refine wpList_mk rfl (.tmp 31) (.tmp 31) ei22 rfl rfl 8 rfl rfl h88 h88 hq1 hq2 ?_; intro _))
      obtain ⟨X, hX⟩ : ∃ X : Int, Eqn (IntKind.u64.wrap (IntKind.u64.wrap (n : Int) * 8)) X := ⟨_, ⟨rfl⟩⟩
      rw [hX.out]
      have hX0 : 0 ≤ X := by rw [← hX.out, hn8.out]; omega
      have hX1 : X < 18446744073709551616 := by rw [← hX.out, hn8.out]; have := hl.le; omega
      go_wp2_with fail
      refine wp_loop_rounds 9 ?_
      have hen : bv [X / 256 / 256 / 256 / 256 / 256 / 256 / 256 % 256, X / 256 / 256 / 256 / 256 / 256 / 256 % 256, X / 256 / 256 / 256 / 256 / 256 % 256, X / 256 / 256 / 256 / 256 % 256, X / 256 / 256 / 256 % 256, X / 256 / 256 % 256, X / 256 % 256, X % 256] = bv (en8 X) := by
        rw [en8]
        congr 1
        simp only [List.cons.injEq, and_true]
        refine ⟨?_, ?_, ?_, ?_, ?_, ?_⟩ <;> omega
      have hE := (own_lit wr (bv [X / 256 / 256 / 256 / 256 / 256 / 256 / 256 % 256, X / 256 / 256 / 256 / 256 / 256 / 256 % 256, X / 256 / 256 / 256 / 256 / 256 % 256, X / 256 / 256 / 256 / 256 % 256, X / 256 / 256 / 256 % 256, X / 256 / 256 % 256, X / 256 % 256, X % 256]) 5 8 rfl hq2).toSv
      have hA9 := fun (cs : Array Value) => hA.mods (alloc_mods wr (.cells cs 5)) (fun _ _ f => f)
      have hL9 : Lim (n + 1 + j + 8) := hl.of (by omega)
      have hen' := Eqn.mk hen
      clear hen
      iterate 9 (rw [rounds_succ]; go_wp2_with (at_builtin; refine wpList_app rfl (.tmp 47) (.tmp 48) ei22 rfl (hA9 _) hE rfl rfl (bv_one _) (lim_app hL9) hL9.maxLen ?_; intro a9 c9 w9 hO9))
      go_ret
      have hO10 : Own w9 5 1 a9 (n + 1 + j + 8) c9 (bv (l ++ padd 64 8 l.length)) := by
        have h10 := hO9.own
        rw [hen'.out, ← bv_append] at h10
        have e : (l ++ [128]) ++ List.replicate j 0 ++ en8 X = l ++ padd 64 8 l.length := by
          have e9 : X = 8 * (l.length : Int) := by rw [← hX.out, hn8.out, hnl.out]
          rw [padd, hnl.out, ← hz.out, e9, hnl.out]
          simp
        rw [e] at h10
        exact h10
      refine ⟨a9, _, c9, rfl, ?_, hO10, hO9.new hN (by have := hM.size; simp; omega), (hM.alloc _).trans' hO9.mods (fun i hi ⟨ad, e, hb⟩ => by have := hN ad e; omega)⟩
      have := hO10.len
      simpa [bv] using this.symm
set_option maxHeartbeats 4000000 in
set_option maxRecDepth 100000 in
theorem f125_128 (w : World) (a : Option Addr) (n c : Nat) (l : List Int) (hs : Sv w 5 1 a n c (bv l)) (hl : Lim (n + 300)) :
    Calls Tryd.prog 125 #[.slice a n c, .int .i64 128, .int .i64 16] w fun e w' => ∃ a' k' c', e = .returned (.slice a' k' c') ∧ k' = (l ++ padd 128 16 l.length).length ∧ SumOut w w' a' k' c' (l ++ padd 128 16 l.length) := by
  have hnl : Eqn l.length n := ⟨by have := hs.len; simpa [bv] using this⟩
  have hL0 : Lim (0 + n) := hl.of (by omega)
  have hL1 : Lim (n + 1) := hl.of (by omega)
  have hl1 := fun (w : World) => (own_lit w (bv [128]) 5 1 rfl (by simp only [maxLen]; omega)).toSv
  have hl2 := fun (w : World) => (own_lit w (bv [0]) 5 1 rfl (by simp only [maxLen]; omega)).toSv
  go_enter Tryd.func125, Tryd.ntmps125
  go_upto_region 2 with (at_builtin; refine wpList_app rfl (.const (.slice none 0 0)) (.tmp 11) ei22 rfl (own_nil _) hs rfl rfl (bv_one _) (lim_app hL0) hL0.maxLen ?_; intro a1 c1 w1 hO1)
  have hM1 : Mods Nix w w1 := hO1.mods.mono (fun i _ ⟨ad, e, _⟩ => by cases e)
  have hN1 : New w.heap.size a1 := hO1.new (New.none _) (Nat.le_refl _)
  have hA0 : Own w1 5 1 a1 n c1 (bv l) := by have := hO1.own; simpa [bv] using this
  have hA1 : Own (w1.alloc (.cells (bv [128]).toArray 5)) 5 1 a1 n c1 (bv l) := hA0.mods (alloc_mods _ _) (fun _ _ f => f)
  clear hO1 hA0
  go_upto_region 3 with (at_builtin; refine wpList_app rfl (.tmp 13) (.tmp 14) ei22 rfl hA1 (hl1 w1) rfl rfl (bv_one _) (lim_app hL1) hL1.maxLen ?_; intro a2 c2 w2 hO2)
  have hN2 : New w.heap.size a2 := hO2.new hN1 (by have := hM1.size; simp; omega)
  have hM2 : Mods Nix w w2 := (hM1.alloc _).trans' hO2.mods (fun i hi ⟨ad, e, hb⟩ => by have := hN1 ad e; omega)
  have hA2 : Own w2 5 1 a2 (n + 1) c2 (bv (l ++ [128])) := by rw [bv_append]; exact hO2.own
  clear hO2 hA1
  obtain ⟨z, hz⟩ : ∃ z, Eqn z (zer 128 16 n) := ⟨_, ⟨rfl⟩⟩
  have hz64 : z < 128 := by rw [hz.out, zer]; omega
  go_wp2_with fail
  go_loopw [7] (fun o wr => ∃ (j : Nat) (a' : Option Addr) (c' : Nat), j ≤ z ∧ o = .slice a' (n + 1 + j) c' ∧ Own wr 5 1 a' (n + 1 + j) c' (bv ((l ++ [128]) ++ List.replicate j 0)) ∧ New w.heap.size a' ∧ Mods Nix w wr) (fun o _ => (n + 1 + z) - lenV o)
  case atStart => exact ⟨0, a2, c2, Nat.zero_le _, rfl, by simpa using hA2, hN2, hM2⟩
  case round =>
    obtain ⟨j, a', c', hj, rfl, hA, hN, hM⟩ := hrel
    have hL2 : Lim (n + 1 + j + 1) := hl.of (by omega)
    by_cases h8 : j < z
    · have hc : ¬ ((n : Int) + 1 + j) % 128 = 112 := by have := hz.out; simp only [zer] at this; omega
      have hA3 : Own (wr.alloc (.cells (bv [0]).toArray 5)) 5 1 a' (n + 1 + j) c' (bv ((l ++ [128]) ++ List.replicate j 0)) := hA.mods (alloc_mods _ _) (fun _ _ f => f)
      go_wp2_with (at_builtin; refine wpList_app rfl (.tmp 24) (.tmp 25) ei22 rfl hA3 (hl2 wr) rfl rfl (bv_one _) (lim_app hL2) hL2.maxLen ?_; intro a5 c5 w5 hO5)
      go_roundw
      case measure => simp only [lenV]; omega
      case rel =>
        refine ⟨j + 1, a5, c5, h8, rfl, ?_, hO5.new hN (by have := hM.size; simp; omega), (hM.alloc _).trans' hO5.mods (fun i hi ⟨ad, e, hb⟩ => by have := hN ad e; omega)⟩
        have e : (l ++ [128]) ++ List.replicate (j + 1) 0 = ((l ++ [128]) ++ List.replicate j 0) ++ [(0 : Int)] := by rw [List.replicate_succ', List.append_assoc, List.append_assoc, List.append_assoc]
        rw [e, bv_append]
        exact hO5.own
    · obtain rfl : j = z := by omega
      have hc : ((n : Int) + 1 + j) % 128 = 112 := by have := hz.out; simp only [zer] at this; omega
      have hn8 : Eqn (IntKind.u64.wrap (IntKind.u64.wrap (n : Int) * 8)) (8 * (n : Int)) := ⟨by have := hl.le; simp only [IntKind.wrap, IntKind.bits, IntKind.signed]; simp; omega⟩
      go_upto_region 7 with (first | (with_reducible refine wpList_mk rfl (.tmp 31) (.tmp 31) ei22 rfl rfl 16 rfl rfl h1616 h1616 hq11 hq12 ?_; intro _))
      obtain ⟨X, hX⟩ : ∃ X : Int, Eqn (IntKind.u64.wrap (IntKind.u64.wrap (n : Int) * 8)) X := ⟨_, ⟨rfl⟩⟩
      rw [hX.out]
      have hX0 : 0 ≤ X := by rw [← hX.out, hn8.out]; omega
      have hX1 : X < 18446744073709551616 := by rw [← hX.out, hn8.out]; have := hl.le; omega
      go_wp2_with fail
      refine wp_loop_rounds 17 ?_
      have hen : bv [X / 256 / 256 / 256 / 256 / 256 / 256 / 256 / 256 / 256 / 256 / 256 / 256 / 256 / 256 / 256 % 256, X / 256 / 256 / 256 / 256 / 256 / 256 / 256 / 256 / 256 / 256 / 256 / 256 / 256 / 256 % 256, X / 256 / 256 / 256 / 256 / 256 / 256 / 256 / 256 / 256 / 256 / 256 / 256 / 256 % 256, X / 256 / 256 / 256 / 256 / 256 / 256 / 256 / 256 / 256 / 256 / 256 / 256 % 256, X / 256 / 256 / 256 / 256 / 256 / 256 / 256 / 256 / 256 / 256 / 256 % 256, X / 256 / 256 / 256 / 256 / 256 / 256 / 256 / 256 / 256 / 256 % 256, X / 256 / 256 / 256 / 256 / 256 / 256 / 256 / 256 / 256 % 256, X / 256 / 256 / 256 / 256 / 256 / 256 / 256 / 256 % 256, X / 256 / 256 / 256 / 256 / 256 / 256 / 256 % 256, X / 256 / 256 / 256 / 256 / 256 / 256 % 256, X / 256 / 256 / 256 / 256 / 256 % 256, X / 256 / 256 / 256 / 256 % 256, X / 256 / 256 / 256 % 256, X / 256 / 256 % 256, X / 256 % 256, X % 256] = bv (List.replicate 8 0 ++ en8 X) := by
        rw [en8]
        congr 1
        simp only [List.replicate_succ, List.replicate_zero, List.cons_append, List.nil_append, List.cons.injEq, and_true]
        refine ⟨?_, ?_, ?_, ?_, ?_, ?_, ?_, ?_, ?_, ?_, ?_, ?_, ?_, ?_⟩ <;> omega
      have hE := (own_lit wr (bv [X / 256 / 256 / 256 / 256 / 256 / 256 / 256 / 256 / 256 / 256 / 256 / 256 / 256 / 256 / 256 % 256, X / 256 / 256 / 256 / 256 / 256 / 256 / 256 / 256 / 256 / 256 / 256 / 256 / 256 / 256 % 256, X / 256 / 256 / 256 / 256 / 256 / 256 / 256 / 256 / 256 / 256 / 256 / 256 / 256 % 256, X / 256 / 256 / 256 / 256 / 256 / 256 / 256 / 256 / 256 / 256 / 256 / 256 % 256, X / 256 / 256 / 256 / 256 / 256 / 256 / 256 / 256 / 256 / 256 / 256 % 256, X / 256 / 256 / 256 / 256 / 256 / 256 / 256 / 256 / 256 / 256 % 256, X / 256 / 256 / 256 / 256 / 256 / 256 / 256 / 256 / 256 % 256, X / 256 / 256 / 256 / 256 / 256 / 256 / 256 / 256 % 256, X / 256 / 256 / 256 / 256 / 256 / 256 / 256 % 256, X / 256 / 256 / 256 / 256 / 256 / 256 % 256, X / 256 / 256 / 256 / 256 / 256 % 256, X / 256 / 256 / 256 / 256 % 256, X / 256 / 256 / 256 % 256, X / 256 / 256 % 256, X / 256 % 256, X % 256]) 5 16 rfl hq12).toSv
      have hA9 := fun (cs : Array Value) => hA.mods (alloc_mods wr (.cells cs 5)) (fun _ _ f => f)
      have hL9 : Lim (n + 1 + j + 16) := hl.of (by omega)
      have hen' := Eqn.mk hen
      clear hen
      iterate 17 (rw [rounds_succ]; go_wp2_with (at_builtin; refine wpList_app rfl (.tmp 47) (.tmp 48) ei22 rfl (hA9 _) hE rfl rfl (bv_one _) (lim_app hL9) hL9.maxLen ?_; intro a9 c9 w9 hO9))
      go_ret
      have hO10 : Own w9 5 1 a9 (n + 1 + j + 16) c9 (bv (l ++ padd 128 16 l.length)) := by
        have h10 := hO9.own
        rw [hen'.out, ← bv_append] at h10
        have e : (l ++ [128]) ++ List.replicate j 0 ++ (List.replicate 8 0 ++ en8 X) = l ++ padd 128 16 l.length := by
          have e9 : X = 8 * (l.length : Int) := by rw [← hX.out, hn8.out, hnl.out]
          rw [padd, hnl.out, ← hz.out, e9, hnl.out]
          simp
        rw [e] at h10
        exact h10
      refine ⟨a9, _, c9, rfl, ?_, hO10, hO9.new hN (by have := hM.size; simp; omega), (hM.alloc _).trans' hO9.mods (fun i hi ⟨ad, e, hb⟩ => by have := hN ad e; omega)⟩
      have := hO10.len
      simpa [bv] using this.symm
end Go.Proofs.YtladijfaeieidaaDoor
