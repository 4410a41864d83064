/- Contracts of the reference hashes: words (numbers as bytes). Conditions: a length that an append may come to. -/
import Derived.Test.YtladijfaeieidaaDoorD2
import Derived.Deep.RegionHeld3
namespace Go.Proofs.YtladijfaeieidaaDoor
open Go.RowKit

theorem step_app {P : Program} {w : World} {ops : Array Oper} {o : Oper} {a : Act} {K : Act → World → Prop} {Q : Exit → Act → World → Prop} {E : Prop} (hgd : o.guard = .none) (s x : Operand)
    {t e : TypeId} {z : Value} {sz bytes : Nat} (I : EI P t e z sz bytes) (ho : o.op = .call { callee := .builtin .append, args := #[s, x], argTypes := #[t, t] })
    {a1 a2 : Option Addr} {n c m c2 : Nat} {xs ys : List Value} (hd : Own w e sz a1 n c xs) (hsv : Sv w e sz a2 m c2 ys)
    (hs : a.eval s = .slice a1 n c) (hx : a.eval x = .slice a2 m c2) (h1 : ∀ u ∈ ys, u.oneCell' = true) (hb : (n + m) * bytes ≤ 140737488355328) (h63 : n + m ≤ maxLen)
    (h : ∀ a' c' w', AppOut w w' e sz a1 a' (n + m) c' m (xs ++ ys) → K (a.put o.dst (.slice a' (n + m) c')) w') :
    if Region.wanted o (yielded ops a.tmps) = true then Oper.wp P o a w K Q else E := by
  have hw : Region.wanted o (yielded ops a.tmps) = true := by simp [Region.wanted, hgd]
  rw [if_pos hw]
  obtain ⟨a', c', w', hr, h2, h3, h4, h5⟩ := run_app (P := P) w I o.type hd hsv h1 hb h63
  unfold Oper.wp execOp
  simp only [ho, resolve, invoke, builtin, Sem.run_bind, Sem.run_pure, Result.andThen_ok, List.map_toArray, List.map_cons, List.map_nil, hs, hx, hr]
  exact h _ _ _ ⟨h2, h3, h4, h5⟩

set_option maxHeartbeats 1000000 in
set_option maxRecDepth 100000 in
theorem f128 (w : World) (a : Option Addr) (n c : Nat) (l : List Int) (hs : Sv w 104 1 a n c (l.map (Value.int .u32))) (hn : n ≤ 16) :
    Calls Tryd.prog 128 #[.slice a n c] w fun e w' => ∃ a' c', e = .returned (.slice a' (4 * n) c') ∧ SumOut w w' a' (4 * n) c' (l.flatMap en4) := by
  have hnl : Eqn l.length n := ⟨by have := hs.len; simpa using this⟩
  go_enter Tryd.func128, Tryd.ntmps128
  go_wp2_with fail
  go_loopw [4, 3] (fun i o wr => ∃ (t : Nat) (a' : Option Addr) (c' : Nat), t ≤ n ∧ i = .int .i64 t ∧ o = .slice a' (4 * t) c' ∧ Own wr 5 1 a' (4 * t) c' (bv ((l.take t).flatMap en4)) ∧ New w.heap.size a' ∧ Mods Nix w wr) (fun i _ _ => n - (intOf i).toNat)
  case atStart => exact ⟨0, none, 0, Nat.zero_le _, rfl, rfl, own_nil _, New.none _, Mods.refl _ _⟩
  case round =>
    obtain ⟨t, a', c', ht, rfl, rfl, hO, hN, hM⟩ := hrel
    by_cases h8 : t < n
    · obtain ⟨g, o, rfl⟩ := hs.addr (by omega)
      have hcap := hs.le
      obtain ⟨x, hx⟩ : ∃ x, Eqn x (l.getD t 0) := ⟨_, ⟨rfl⟩⟩
      have e0 : wr.drew.cell? ⟨g, o + t, none⟩ = some (.int .u32 x) := hM.drew.cell (hs.cell (i := t) (by rw [hx.out]; simp [hnl.out, h8, List.getD])) (fun f => f)
      have hL : Lim (4 * t + 4) := ⟨by omega⟩
      have hE := own_lit wr.drew (bv (en4 x)) 5 4 rfl (by simp only [maxLen]; omega)
      have hA := fun (cs : Array Value) => (hO.mods ((Mods.refl Nix wr).drew) (fun _ _ f => f)).mods (alloc_mods wr.drew (.cells cs 5)) (fun _ _ f => f)
      have hc1 : (0 : Int) ≤ t := by omega
      have hc2 : (t : Int) < n := by omega
      have nix : ∀ {i}, ¬ Nix i := fun f => f
      go_wp2_with fail
      have hwr : bv (en4 x) = [Value.int .u8 (IntKind.u8.wrap (x / 16777216)), .int .u8 (IntKind.u8.wrap (x / 65536)), .int .u8 (IntKind.u8.wrap (x / 256)), .int .u8 (IntKind.u8.wrap x)] := rfl
      have hE2 : Sv (wr.alloc (.cells #[Value.int .u8 (IntKind.u8.wrap (x / 16777216)), .int .u8 (IntKind.u8.wrap (x / 65536)), .int .u8 (IntKind.u8.wrap (x / 256)), .int .u8 (IntKind.u8.wrap x)] 5)).drew 5 1 (some ⟨wr.heap.size, 0, none⟩) 4 4 (bv (en4 x)) := hE.toSv
      have hk : (wr.alloc (.cells #[Value.int .u8 (IntKind.u8.wrap (x / 16777216)), .int .u8 (IntKind.u8.wrap (x / 65536)), .int .u8 (IntKind.u8.wrap (x / 256)), .int .u8 (IntKind.u8.wrap x)] 5)).drew.cell? ⟨g, o + t, none⟩ = some (.int .u32 x) := (alloc_mods wr.drew _).cell e0 nix
      clear hwr hE
      have hgw := hs.lt _ rfl
      have hna : ¬ In a' g := fun ⟨ad, e, hb⟩ => by have := hN ad e; simp at hgw; omega
      go_region_held3 (fun w' => w'.cell? ⟨g, o + t, none⟩ = some (.int .u32 x)) (first | assumption) (first | (refine step_app rfl (.tmp 11) (.tmp 35) ei22 rfl (hA _) hE2 rfl rfl (bv_one _) (lim_app hL) hL.maxLen ?_; intro a5 c5 w5 hO5; have hk6 := hO5.mods.cell hk hna))
      go_wp2_with fail
      go_roundw
      case measure => simp [intOf]; omega
      case rel =>
        refine ⟨t + 1, a5, c5, h8, by go_num, rfl, ?_, hO5.new hN (by have := hM.size; simp; omega), ((hM.alloc _).drew).trans' hO5.mods (fun i hi ⟨ad, e, hb⟩ => by have := hN ad e; omega)⟩
        have e6 : l.take (t + 1) = l.take t ++ [l.getD t 0] := by rw [List.take_add_one]; simp [hnl.out, h8, List.getD]
        rw [e6, List.flatMap_append, bv_append, ← hx.out]
        simp only [List.flatMap_cons, List.flatMap_nil, List.append_nil]
        exact hO5.own
    · obtain rfl : t = n := by omega
      go_wp2_with fail
      go_ret
      refine ⟨a', c', rfl, ?_, hN, hM⟩
      rw [List.take_of_length_le (by rw [hnl.out]; exact Nat.le_refl _)] at hO
      exact hO
end Go.Proofs.YtladijfaeieidaaDoor
