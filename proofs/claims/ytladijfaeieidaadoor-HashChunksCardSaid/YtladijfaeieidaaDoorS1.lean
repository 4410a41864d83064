/- Slices' parts, in whatever world. No conditions. -/
import Derived.Test.YtladijfaeieidaaDoorC14
import Derived.Test.YtladijfaeieidaaDoorD10
namespace Go.Proofs.YtladijfaeieidaaDoor
open Go.RowKit Go.Shelf

/-- A slice's part, in whatever world. -/
theorem cut_facts {a : Option Addr} {n c : Nat} (lo hi : Nat) (L X : Int) (hL : L = (lo : Int)) (hX : X = (hi : Int)) (h1 : lo ≤ hi) (h2 : hi ≤ n) (h3 : n ≤ c) :
    ∃ a', (∀ w, (Instr.sliceAt 22 (.slice a n c) (some (.int .i64 L)) (some (.int .i64 X)) none).run Tryd.prog w = .ok (.slice a' (hi - lo) (c - lo)) w) ∧ (∀ w l, Sv w 5 1 a n c (bv l) → Sv w 5 1 a' (hi - lo) (c - lo) (bv ((l.drop lo).take (hi - lo)))) ∧ ∀ k, In a' k → In a k := by
  subst hL
  subst hX
  have h4 : hi ≤ c := by omega
  refine ⟨_, fun w => run_slice_gen (P := Tryd.prog) w ei22 a n c lo hi c _ _ _ (by simp [Instr.sliceBounds, Instr.sliceBound, asIntOf, h4, h1]), fun w l h => ?_, fun k hk => sub_in hk⟩
  have := h.sub lo hi c h1 h2 h4 (Nat.le_refl _)
  simpa [bv_drop, bv_take] using this
/-- A slice's front, in whatever world. -/
theorem cut_front {a : Option Addr} {n c : Nat} (hi : Nat) (X : Int) (hX : X = (hi : Int)) (h2 : hi ≤ n) (h3 : n ≤ c) :
    ∃ a', (∀ w, (Instr.sliceAt 22 (.slice a n c) none (some (.int .i64 X)) none).run Tryd.prog w = .ok (.slice a' hi c) w) ∧ (∀ w l, Sv w 5 1 a n c (bv l) → Sv w 5 1 a' hi c (bv (l.take hi))) ∧ ∀ k, In a' k → In a k := by
  subst hX
  have h4 : hi ≤ c := by omega
  refine ⟨_, fun w => run_slice_gen (P := Tryd.prog) w ei22 a n c 0 hi c _ _ _ (bounds_to n c hi h2 h3 _ _), fun w l h => ?_, fun k hk => sub_in hk⟩
  have := h.sub 0 hi c (Nat.zero_le _) h2 h4 (Nat.le_refl _)
  simpa [bv_drop, bv_take] using this
/-- A slice from a place on, in whatever world. -/
theorem cut_from {a : Option Addr} {n c : Nat} (lo : Nat) (L : Int) (hL : L = (lo : Int)) (h2 : lo ≤ n) (h3 : n ≤ c) :
    ∃ a', (∀ w, (Instr.sliceAt 22 (.slice a n c) (some (.int .i64 L)) none none).run Tryd.prog w = .ok (.slice a' (n - lo) (c - lo)) w) ∧ (∀ w l, Sv w 5 1 a n c (bv l) → Sv w 5 1 a' (n - lo) (c - lo) (bv (l.drop lo))) ∧ ∀ k, In a' k → In a k := by
  refine ⟨_, fun w => run_slice_gen (P := Tryd.prog) w ei22 a n c lo n c _ _ _ (bounds_from n c lo L hL h2 h3 _ _), fun w l h => ?_, fun k hk => sub_in hk⟩
  have h8 := h.sub lo n c h2 (Nat.le_refl _) h3 (Nat.le_refl _)
  have hl : l.length = n := by have := h.len; simpa [bv] using this
  have e : (l.drop lo).take (n - lo) = l.drop lo := List.take_of_length_le (by simp [hl])
  rw [Nat.mul_one (n - lo), bv_drop, bv_take] at h8
  simp only [Nat.mul_one] at h8 ⊢
  rw [e] at h8
  exact h8
end Go.Proofs.YtladijfaeieidaaDoor
