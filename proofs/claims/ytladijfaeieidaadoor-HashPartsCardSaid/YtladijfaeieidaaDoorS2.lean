/- Parts: slices that lie in memory (an empty one may point anywhere); a copy of a part. Condition: a copy's length stays under the room of a run. -/
import Derived.Test.YtladijfaeieidaaDoorE2
namespace Go.Proofs.YtladijfaeieidaaDoor
open Go.RowKit Go.Shelf

/-- Appending nothing to nil. -/
theorem run_app0 {P : Program} (w : World) {t e : TypeId} {z : Value} {sz bytes : Nat} (I : EI P t e z sz bytes) (ty : TypeId) (a2 : Option Addr) (c2 : Nat) :
    (Builtin.append_ #[t, t] ty #[.slice none 0 0, .slice a2 0 c2]).run P w = .ok (.slice none 0 0) w := by
  obtain ⟨ht, ⟨i, hi, hz, hsize, hby⟩, hzs, hpos⟩ := I
  cases a2 <;> simp [Builtin.append_, run_underlying ht, sizeOf, typeInfo, hi, Builtin.lenOf, Builtin.firstCells, loadCells, loadCellsFrom]
/-- A part. -/
structure Pt (w : World) (x : Option Addr) (n c : Nat) (l : List Int) : Prop where
  le : n ≤ c
  byt : Byt l
  len : l.length = n
  ex : Sv w 5 1 x n c (bv l) ∨ n = 0
theorem Pt.mods {w w' : World} {a : Option Addr} {n c : Nat} {l : List Int} (h : Pt w a n c l) (hm : Mods Nix w w') : Pt w' a n c l :=
  ⟨h.le, h.byt, h.len, h.ex.imp (fun h => h.mods hm (fun _ _ f => f)) id⟩
theorem Pt.of {w : World} {a : Option Addr} {n c : Nat} {l : List Int} (h : Sv w 5 1 a n c (bv l)) (hb : Byt l) : Pt w a n c l :=
  ⟨h.le, hb, by have := h.len; simpa [bv] using this, .inl h⟩
theorem Pt.min {w : World} {a : Option Addr} {n c : Nat} {l : List Int} (h : Pt w a n c l) (m : Nat) : Pt w a (min n m) c (l.take m) := by
  refine ⟨Nat.le_trans (Nat.min_le_left _ _) h.le, h.byt.take _, by rw [List.length_take, h.len, Nat.min_comm], ?_⟩
  rcases h.ex with h | h
  · exact .inl (sv_min h m)
  · exact .inr (by omega)
/-- A part's copy. -/
structure PtOut (w w' : World) (a : Option Addr) (n c : Nat) (l : List Int) : Prop where
  own : Own w' 5 1 a n c (bv l)
  fresh : New w.heap.size a
  mods : Mods Nix w w'
theorem wpList_cl {w : World} {ops : Array Oper} {rest : List Oper} {o : Oper} {a : Act} {Q : Exit → Act → World → Prop} (hgd : o.guard = .none) (s x : Operand)
    (ho : o.op = .call { callee := .builtin .append, args := #[s, x], argTypes := #[22, 22] })
    {a2 : Option Addr} {m c2 : Nat} {l : List Int} (hp : Pt w a2 m c2 l) (hs : a.eval s = .slice none 0 0) (hx : a.eval x = .slice a2 m c2) (hb : m ≤ 70000)
    (h : ∀ a' c' w', PtOut w w' a' m c' l → wpList Tryd.prog ops Q rest (a.put o.dst (.slice a' m c')) w') : wpList Tryd.prog ops Q (o :: rest) a w := by
  rcases hp.ex with h1 | h1
  · refine wpList_app hgd s x ei22 ho (Own.none w 5 1) h1 hs hx (bv_one l) (by omega) (by simp only [maxLen]; omega) ?_
    intro a' c' w' hA
    have e : 0 + m = m := Nat.zero_add m
    rw [e] at hA ⊢
    refine h a' c' w' ⟨by simpa using hA.own, hA.new (New.none _) (Nat.le_refl _), ?_⟩
    exact hA.mods.mono (fun _ _ hi => by obtain ⟨ad, e, -⟩ := hi; cases e)
  · subst h1
    have hl : l = [] := List.eq_nil_of_length_eq_zero hp.len
    subst hl
    refine wpList_plain hgd fun K hK => ?_
    have hr := run_app0 (P := Tryd.prog) w ei22 o.type a2 c2
    unfold Oper.wp execOp
    simp only [ho, resolve, invoke, builtin, Sem.run_bind, Sem.run_pure, Result.andThen_ok, List.map_toArray, List.map_cons, List.map_nil, hs, hx, hr]
    exact hK _ _ (h none 0 w ⟨Own.none w 5 1, New.none _, Mods.refl _ w⟩)
/-- Parts that came in. -/
structure Ps (w : World) (a : Option Addr) (n c : Nat) : Prop where
  le : n ≤ c
  cap : c ≤ maxLen
  get : ∀ t, t < n → ∃ g o x nx cx l, a = some ⟨g, o, none⟩ ∧ w.cell? ⟨g, o + t, none⟩ = some (.slice x nx cx) ∧ Pt w x nx cx l
end Go.Proofs.YtladijfaeieidaaDoor
