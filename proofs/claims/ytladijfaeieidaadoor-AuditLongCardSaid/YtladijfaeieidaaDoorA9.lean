/- The walks of chapter 16's statements: entries that came in; a chain of them. Condition: the table of constants stands. -/
import Derived.Test.YtladijfaeieidaaDoorA8

namespace Go.Proofs.YtladijfaeieidaaDoor
open Go.RowKit

/-- An entry. -/
structure Ent where
  q : Int
  t : Int
  f : Int
  r : Int
  s : Int
/-- Its value. -/
def Ent.val (e : Ent) : Value := .agg #[.int .i64 e.q, .int .i64 e.t, .int .i64 e.f, .int .i64 e.r, .int .i64 e.s]
/-- Its cells. -/
structure EntAt (w : World) (g o : Nat) (e : Ent) : Prop where
  c0 : w.cell? ⟨g, o, none⟩ = some (.int .i64 e.q)
  c1 : w.cell? ⟨g, o + 1, none⟩ = some (.int .i64 e.t)
  c2 : w.cell? ⟨g, o + 2, none⟩ = some (.int .i64 e.f)
  c3 : w.cell? ⟨g, o + 3, none⟩ = some (.int .i64 e.r)
  c4 : w.cell? ⟨g, o + 4, none⟩ = some (.int .i64 e.s)
theorem EntAt.mods {w w' : World} {g o : Nat} {e : Ent} (h : EntAt w g o e) (hm : Mods Nix w w') : EntAt w' g o e :=
  ⟨hm.cell h.c0 (fun f => f), hm.cell h.c1 (fun f => f), hm.cell h.c2 (fun f => f), hm.cell h.c3 (fun f => f), hm.cell h.c4 (fun f => f)⟩
/-- Entries that came in. -/
structure EsIn (w : World) (a : Option Addr) (n c : Nat) (es : List Ent) : Prop where
  len : es.length = n
  le : n ≤ c
  cap : c ≤ maxLen
  lim : ∀ e ∈ es, e.t ≤ 9223372036854775807
  ex : ∀ i e, es[i]? = some e → ∃ g o, a = some ⟨g, o, none⟩ ∧ EntAt w g (o + i * 5) e
set_option maxRecDepth 100000 in
set_option maxHeartbeats 2000000 in
theorem f49 (w : World) (a : Option Addr) (n c : Nat) (es : List Ent) (h : EsIn w a n c es) :
    Calls Tryd.prog 49 #[.slice a n c, .int .i64 8] w fun e w' => ∃ a' n' c' l m, e = .returned (.slice a' n' c') ∧ SvOut w w' a' n' c' l ∧ Lg l m ∧ m ≤ 8 ∧ n' = 52 * m := by
  have hcm := h.cap
  have hnc := h.le
  have hnm : n ≤ 9223372036854775807 := by simp only [maxLen] at hcm; omega
  have hlen := Eqn.mk h.len
  clear hcm
  go_enter Tryd.func49, Tryd.ntmps49
  go_wp2_with fail
  go_loopw [5, 6] (fun o i wr => ∃ (k m : Nat) (a' : Option Addr) (n' c' : Nat) (l : List Int), k ≤ n ∧ k ≤ 8 ∧ m ≤ k ∧ i = .int .i64 k ∧ o = .slice a' n' c' ∧ Eqn n' (52 * m) ∧ Lg l m ∧ Sv wr 5 1 a' n' c' (bv l) ∧ New w.heap.size a' ∧ Mods Nix w wr) (fun _ i _ => 8 - (intOf i).toNat)
  case atStart => exact ⟨0, 0, none, 0, 0, [], Nat.zero_le _, Nat.zero_le _, Nat.le_refl _, rfl, rfl, ⟨rfl⟩, .nil, (own_nil _).toSv, New.none _, Mods.refl _ _⟩
  case round =>
    obtain ⟨k, m, a', n', c', l, hk, hk8, hmk, rfl, rfl, hn', hL, hS, hN, hM⟩ := hrel
    by_cases h1 : k < n ∧ k < 8
    · obtain ⟨h1, h2⟩ := h1
      obtain ⟨e, he⟩ : ∃ e, es[k]? = some e := ⟨_, List.getElem?_eq_getElem (by rw [hlen.out]; exact h1)⟩
      obtain ⟨g, o, rfl, hA⟩ := h.ex k e he
      have hA' := hA.mods hM
      obtain ⟨d0, d1, d2, d3, d4⟩ := hA'
      have i2 : (k : Int) < 8 := by omega
      have hte := h.lim e (List.mem_of_getElem? he)
      clear h he hA
      have hl' : Eqn l.length n' := ⟨by rw [hL.len, hn'.out]⟩
      have hn9 : n' ≤ 1000 := by rw [hn'.out]; omega
      by_cases ok : OkE n' e.t e.f e.r e.s
      · have T44 := f44y wr a' n' c' l hS hL.byt (by omega) e.q e.t e.f e.r e.s hte ok
        have hL2 : Lg (l ++ lineOf (headOf l) ((n' / 52 : Nat) : Int) e.t e.f e.r e.s) (m + 1) := by
          have := Lg.snoc hL (by rw [← hn'.out]; exact ok) hte
          rw [addL, hl'.out] at this
          exact this
        obtain ⟨l2, hl2⟩ : ∃ l2, Eqn l2 (l ++ lineOf (headOf l) ((n' / 52 : Nat) : Int) e.t e.f e.r e.s) := ⟨_, ⟨rfl⟩⟩
        rw [← hl2.out] at hL2 T44
        clear ok hn9 hte hS hL hl2
        go_wp2_with (first | (go_at_call 44; with_reducible refine T44.mono ?_; rintro e w9 ⟨a9, c9, rfl, hS9⟩))
        go_roundw
        case measure => simp [intOf]; omega
        case rel =>
          exact ⟨k + 1, m + 1, a9, n' + 52, c9, l2, h1, h2, by omega, by go_num, rfl, ⟨by rw [hn'.out]; omega⟩, hL2, hS9.own.toSv, hS9.fresh.mono hM.size, hM.trans' hS9.mods (fun _ _ f => f)⟩
      · have T44 := f44n wr a' n' c' (by omega) e.q e.t e.f e.r e.s ok
        clear ok hn9 hte
        go_wp2_with (first | (go_at_call 44; with_reducible refine T44.mono ?_; rintro e w9 ⟨rfl, hM9⟩))
        go_roundw
        case measure => simp [intOf]; omega
        case rel =>
          exact ⟨k + 1, m, a', n', c', l, h1, h2, by omega, by go_num, rfl, hn', hL, hS.mods hM9 (fun _ _ f => f), hN, hM.trans' hM9 (fun _ _ f => f)⟩
    · have e1 : k = n ∨ (k = 8 ∧ k < n) := by omega
      clear h1
      rcases e1 with rfl | ⟨rfl, h1⟩
      · go_wp2_with fail
        go_ret
        exact ⟨a', n', c', l, m, rfl, ⟨hS, hN, hM⟩, hL, by omega, hn'.out⟩
      · go_wp2_with fail
        go_ret
        exact ⟨a', n', c', l, m, rfl, ⟨hS, hN, hM⟩, hL, by omega, hn'.out⟩
end Go.Proofs.YtladijfaeieidaaDoor
