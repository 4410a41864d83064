/- The plain law of AuditLong's log: its lines are the entries. No program in sight. -/
import Derived.Test.YtladijfaeieidaaDoorA8
namespace Go.Proofs.YtladijfaeieidaaDoor
open Go.RowKit

/-- The log of AuditLong: k lines, the function counted up. -/
def longL (t f r s : Int) : Nat → List Int
  | 0 => []
  | k + 1 => addL (longL t f r s k) t (f + k) r s
/-- The bounds of AuditLong's entry. -/
structure LongE (t f r s : Int) : Prop where
  t0 : ¬ t < 0
  t1 : t ≤ 9223372036854775807
  f0 : ¬ f < 0
  f1 : ¬ 65000 < f
  s0 : ¬ s < 0
  s1 : ¬ 65535 < s
  r0 : ¬ r < 0
  r1 : ¬ 2147483648 < r
theorem LongE.ok {t f r s : Int} (h : LongE t f r s) {k m : Nat} (hk : k ≤ 150) (hm : m % 52 = 0) : OkE m t (f + k) r s := by
  obtain ⟨h1, h2, h3, h4, h5, h6, h7, h8⟩ := h
  exact ⟨hm, h1, by omega, by omega, h5, h6, h7, by omega⟩
theorem longL_lg {t f r s : Int} (h : LongE t f r s) : ∀ k, k ≤ 150 → Lg (longL t f r s k) k
  | 0, _ => .nil
  | k + 1, hk => .snoc (longL_lg h k (by omega)) (h.ok (by omega) (by omega)) h.t1
theorem longL_piece {t f r s : Int} (h : LongE t f r s) : ∀ n, n ≤ 150 → ∀ k, k < n → ∃ hd, piece (longL t f r s n) 52 k = lineOf hd k t (f + k) r s
  | 0, _, k, hk => by omega
  | n + 1, hn, k, hk => by
    have hl := (longL_lg h n (by omega)).len
    rw [longL, addL]
    by_cases e : k = n
    · subst e
      refine ⟨headOf (longL t f r s k), ?_⟩
      rw [piece_end _ _ _ hl (length_lineOf _ _ _ _ _ _), hl, show 52 * k / 52 = k from by omega]
    · rw [piece_app _ _ _ _ (by rw [hl]; omega)]
      exact longL_piece h n (by omega) k (by omega)
theorem entOf_piece (l : List Int) (k : Nat) : entOf (l.drop (52 * k)) = entOf (piece l 52 k) := by
  simp only [entOf, piece, List.take_take, List.drop_take, List.drop_drop]
  rfl
theorem longL_ent {t f r s : Int} (h : LongE t f r s) {n k : Nat} (hn : n ≤ 150) (hk : k < n) : entOf ((longL t f r s n).drop (52 * k)) = .agg #[.int .i64 k, .int .i64 t, .int .i64 (f + k), .int .i64 r, .int .i64 s] := by
  obtain ⟨hd, hp⟩ := longL_piece h n hn k hk
  have ok := h.ok (k := k) (m := 0) (by omega) rfl
  have e1 : be ((lineOf hd k t (f + k) r s).take 4) = k := by rw [(line_parts _ _ _ _ _ _).1, be_en4 _ (by omega) (by omega)]
  have e2 := ok.time h.t1 hd k
  rw [timeOf] at e2
  rw [entOf_piece, hp, entOf, e1, e2, ok.fn, ok.rv, ok.slot]
end Go.Proofs.YtladijfaeieidaaDoor
