/- Contracts of the reference: four, Join, HMAC, MGF1. Conditions: lengths that an append may come to. -/
import Derived.Test.YtladijfaeieidaaDoorE1
import Derived.Test.YtladijfaeieidaaDoorD7
namespace Go.Proofs.YtladijfaeieidaaDoor
open Go.RowKit

theorem f99 (w : World) (t : Nat) (ht : t < 100000) : Calls Tryd.prog 99 #[.int .i64 (t : Int)] w fun e w' => e = .returned (.slice (some ⟨w.heap.size, 0, none⟩) 4 4) ∧ SumOut w w' (some ⟨w.heap.size, 0, none⟩) 4 4 (en4 t) := by
  have h := own_lit w (bv [(t : Int) / 16777216, (t : Int) / 65536, (t : Int) / 256 % 256, (t : Int) % 256]) 5 4 rfl (by simp only [maxLen]; omega)
  have e : en4 (t : Int) = [(t : Int) / 16777216, (t : Int) / 65536, (t : Int) / 256 % 256, (t : Int) % 256] := by
    have e1 : (t : Int) / 16777216 % 256 = (t : Int) / 16777216 := by omega
    have e2 : (t : Int) / 65536 % 256 = (t : Int) / 65536 := by omega
    rw [en4, e1, e2]
  rw [e]
  clear e
  have q : (0 : Int) ≤ t := by omega
  have q2 : (t : Int) < 100000 := by omega
  go_enter Tryd.func99, Tryd.ntmps99
  go_wp2_with fail
  go_ret
  exact ⟨rfl, h, new_alloc w, alloc_mods _ _⟩
set_option maxHeartbeats 1000000 in
theorem f100 (w : World) (a : Option Addr) (n c : Nat) (ps : List (List Int)) (hps : Bs w a n c ps) (hl : Lim (ps.flatten.length + 300)) :
    Calls Tryd.prog 100 #[.slice a n c] w fun e w' => ∃ a' k' c', e = .returned (.slice a' k' c') ∧ Eqn k' ps.flatten.length ∧ SumOut w w' a' k' c' ps.flatten := by
  have hlen := Eqn.mk hps.len
  go_enter Tryd.func100, Tryd.ntmps100
  go_wp2_with fail
  go_loopw [3, 4] (fun o i wr => ∃ (t k' : Nat) (a' : Option Addr) (c' : Nat), t ≤ n ∧ Eqn k' (ps.take t).flatten.length ∧ i = .int .i64 t ∧ o = .slice a' k' c' ∧ Own wr 5 1 a' k' c' (bv (ps.take t).flatten) ∧ New w.heap.size a' ∧ Mods Nix w wr) (fun _ i _ => n - (intOf i).toNat)
  case atStart => exact ⟨0, 0, none, 0, Nat.zero_le _, ⟨rfl⟩, rfl, rfl, own_nil _, New.none _, Mods.refl _ _⟩
  case round =>
    obtain ⟨t, k', a', c', ht, hk', rfl, rfl, hO, hN, hM⟩ := hrel
    by_cases h8 : t < n
    · obtain ⟨g, o, x, nx, cx, rfl, hx, hsx, hbx, hnc, hcm⟩ := hps.get t h8
      have hc := hM.cell hx (fun f => f)
      have Hwk : Eqn (wrap64 ((t : Int) + 1)) ((t + 1 : Nat) : Int) := ⟨by simp only [maxLen] at hcm; unfold wrap64; omega⟩
      clear hcm
      have hnx : Eqn nx (ps.getD t []).length := ⟨by have := hsx.len; simpa [bv] using this.symm⟩
      have hft := flatten_take ps t (by rw [hlen.out]; exact h8)
      have hL : Lim (k' + nx) := hl.of (by rw [hk'.out, hnx.out, ← List.length_append, ← hft]; have := flatten_le ps (t + 1); omega)
      have hFT := Eqn.mk hft
      clear hft
      have hsw := hsx.mods hM (fun _ _ f => f)
      go_wp2_with (at_builtin; refine wpList_app rfl (.tmp 11) (.tmp 15) ei22 rfl hO hsw rfl rfl (bv_one _) (lim_app hL) hL.maxLen ?_; intro a5 c5 w5 hO5)
      go_roundw
      case measure => rw [Hwk.out]; exact down_one h8
      case rel =>
        refine ⟨t + 1, k' + nx, a5, c5, h8, ⟨by rw [hFT.out, List.length_append, hk'.out, hnx.out]⟩, by rw [Hwk.out], rfl, ?_, hO5.new hN hM.size, hM.trans' hO5.mods (fun i hi ⟨ad, e, hb⟩ => by have := hN ad e; omega)⟩
        rw [hFT.out, bv_append]
        exact hO5.own
    · obtain rfl : t = n := by omega
      have hfl : (ps.take t).flatten = ps.flatten := by rw [List.take_of_length_le (by rw [hlen.out]; exact Nat.le_refl _)]
      rw [hfl] at hO hk'
      go_wp2_with fail
      go_ret
      exact ⟨a', k', c', rfl, hk', hO, hN, hM⟩
end Go.Proofs.YtladijfaeieidaaDoor
