/- The plain law of the audit: a log that was made line by line is taken whole; one without a line, or with two that changed places, is not. No program in sight. -/
import Derived.Test.YtladijfaeieidaaDoorA7
namespace Go.Proofs.YtladijfaeieidaaDoor
open Go.RowKit

/-- A log and one line more. -/
def addL (l : List Int) (t f r s : Int) : List Int := l ++ lineOf (headOf l) ((l.length / 52 : Nat) : Int) t f r s
/-- A log that was made line by line. -/
inductive Lg : List Int → Nat → Prop
  | nil : Lg [] 0
  | snoc {l : List Int} {n : Nat} {t f r s : Int} : Lg l n → OkE (52 * n) t f r s → t ≤ 9223372036854775807 → Lg (addL l t f r s) (n + 1)
theorem Lg.len {l : List Int} {n : Nat} (h : Lg l n) : l.length = 52 * n := by
  induction h with
  | nil => rfl
  | snoc h _ _ ih => rw [addL, List.length_append, length_lineOf, ih]; omega
theorem Lg.byt {l : List Int} {n : Nat} (h : Lg l n) : Byt l := by
  induction h with
  | nil => exact Byt.nil
  | snoc h _ _ ih => exact ih.append (byt_lineOf _ _ _ _ _ _)
theorem Lg.front {l : List Int} {n : Nat} (h : Lg l n) : ∀ k, k ≤ n → Lg (l.take (52 * k)) k := by
  induction h with
  | nil =>
    intro k hk
    obtain rfl : k = 0 := by omega
    exact .nil
  | @snoc l n t f r s h ho ht ih =>
    intro k hk
    have hl := h.len
    by_cases e : k = n + 1
    · subst e
      rw [List.take_of_length_le (by rw [addL, List.length_append, length_lineOf, hl]; omega)]
      exact .snoc h ho ht
    · rw [addL, List.take_append_of_le_length (by rw [hl]; omega)]
      exact ih k (by omega)
/-- Each line of it. -/
theorem Lg.line {l : List Int} {n : Nat} (h : Lg l n) : ∀ k, k < n → ∃ t f r s, OkE (52 * k) t f r s ∧ t ≤ 9223372036854775807 ∧ piece l 52 k = lineOf (headOf (l.take (52 * k))) k t f r s := by
  induction h with
  | nil => intro k hk; omega
  | @snoc l n t f r s h ho ht ih =>
    intro k hk
    have hl := h.len
    by_cases e : k = n
    · subst e
      refine ⟨t, f, r, s, ho, ht, ?_⟩
      rw [addL, piece, List.drop_append, List.drop_eq_nil_of_le (by rw [hl]; omega), List.nil_append, List.take_append_of_le_length (by rw [hl]; omega), List.take_of_length_le (by rw [List.length_drop, length_lineOf]; omega), hl, List.take_of_length_le (by rw [hl]; omega)]
      rw [show 52 * k - 52 * k = 0 from by omega, List.drop_zero, show 52 * k / 52 = k from by omega]
    · obtain ⟨t1, f1, r1, s1, h1, h2, h3⟩ := ih k (by omega)
      refine ⟨t1, f1, r1, s1, h1, h2, ?_⟩
      rw [addL, piece_app _ _ _ _ (by rw [hl]; omega), h3, List.take_append_of_le_length (by rw [hl]; omega)]
theorem be_en4 (x : Int) (h0 : 0 ≤ x) (h1 : x < 4294967296) : be (en4 x) = x := by
  simp only [be, en4, List.foldl]
  omega
theorem be_en2 (x : Int) (h0 : 0 ≤ x) (h1 : x < 65536) : be (en2 x) = x := by
  simp only [be, en2, List.foldl]
  omega
theorem be_en8 (x : Int) (h0 : 0 ≤ x) (h1 : x < 18446744073709551616) : be (en8 x) = x := by
  simp only [be, en8, List.foldl]
  omega
theorem line_parts (hd : List Int) (q t f r s : Int) : (lineOf hd q t f r s).take 4 = en4 q ∧ ((lineOf hd q t f r s).drop 4).take 8 = en8 t ∧ ((lineOf hd q t f r s).drop 12).take 2 = en2 f ∧ ((lineOf hd q t f r s).drop 14).take 4 = en4 r ∧ ((lineOf hd q t f r s).drop 18).take 2 = en2 s := by
  simp [lineOf, body, en4, en8, en2]
theorem OkE.time {n : Nat} {t f r s : Int} (h : OkE n t f r s) (ht : t ≤ 9223372036854775807) (hd : List Int) (q : Int) : timeOf (lineOf hd q t f r s) = t := by
  have := h.t0
  rw [timeOf, (line_parts hd q t f r s).2.1, be_en8 t (by omega) (by omega)]
  exact IntWalk.i64_in _ (by omega)
theorem OkE.fn {n : Nat} {t f r s : Int} (h : OkE n t f r s) (hd : List Int) (q : Int) : be (((lineOf hd q t f r s).drop 12).take 2) = f := by
  have := h.f0
  have := h.f1
  rw [(line_parts hd q t f r s).2.2.1, be_en2 f (by omega) (by omega)]
theorem OkE.rv {n : Nat} {t f r s : Int} (h : OkE n t f r s) (hd : List Int) (q : Int) : be (((lineOf hd q t f r s).drop 14).take 4) = r := by
  have := h.r0
  have := h.r1
  rw [(line_parts hd q t f r s).2.2.2.1, be_en4 r (by omega) (by omega)]
theorem OkE.slot {n : Nat} {t f r s : Int} (h : OkE n t f r s) (hd : List Int) (q : Int) : be (((lineOf hd q t f r s).drop 18).take 2) = s := by
  have := h.s0
  have := h.s1
  rw [(line_parts hd q t f r s).2.2.2.2, be_en2 s (by omega) (by omega)]
theorem Lg.good {l : List Int} {n : Nat} (h : Lg l n) (k : Nat) (hk : k < n) : goodB l k = true := by
  obtain ⟨t, f, r, s, h1, h2, h3⟩ := h.line k hk
  have e : wantOf l k = piece l 52 k := by
    rw [wantOf, h3, h1.time h2, h1.fn, h1.rv, h1.slot]
  rw [goodB, e, rightB, h3, h1.time h2]
  have := h1.t0
  simp
  omega
theorem Lg.cnt {l : List Int} {n : Nat} (h : Lg l n) : Cnt l n := by
  have hl := h.len
  refine ⟨by rw [hl]; omega, fun j hj => h.good j hj, fun hj => ?_⟩
  rw [hl] at hj
  omega
/-- A line of another number than its place is not as it must be. -/
theorem wrong_seq {l : List Int} {k q : Nat} (hk : k < 4294967296) (hq : q < 4294967296) (hkq : k ≠ q) (h : (piece l 52 k).take 4 = en4 q) : goodB l k = false := by
  rw [goodB, rightB, Bool.and_eq_false_iff]
  left
  rw [decide_eq_false_iff_not]
  intro e
  rw [e, wantOf, (line_parts _ _ _ _ _ _).1] at h
  have h2 := congrArg be h
  rw [be_en4 _ (by omega) (by omega), be_en4 _ (by omega) (by omega)] at h2
  omega
theorem Lg.seq {l : List Int} {n : Nat} (h : Lg l n) (k : Nat) (hk : k < n) : (piece l 52 k).take 4 = en4 k := by
  obtain ⟨t, f, r, s, -, -, h3⟩ := h.line k hk
  rw [h3, (line_parts _ _ _ _ _ _).1]
/-- So many lines at most, where one is wrong. -/
theorem Cnt.most {l : List Int} {m k : Nat} (h : Cnt l m) (hk : goodB l k = false) : m ≤ k := by
  rcases Nat.lt_or_ge k m with h1 | h1
  · rw [h.good k h1] at hk; cases hk
  · exact h1
/-- The lines but number i. -/
def lessN (l : List Int) (i : Nat) : Nat → List Int
  | 0 => []
  | k + 1 => lessN l i k ++ (if k = i then [] else piece l 52 k)
/-- The lines, i and j in each other's places. -/
def swN (l : List Int) (i j : Nat) : Nat → List Int
  | 0 => []
  | k + 1 => swN l i j k ++ piece l 52 (if k = i then j else if k = j then i else k)
theorem length_piece {l : List Int} {n k : Nat} (hl : l.length = 52 * n) (hk : k < n) : (piece l 52 k).length = 52 := by
  rw [piece, List.length_take, List.length_drop, hl]; omega
theorem take_piece (l : List Int) (k : Nat) : l.take (52 * (k + 1)) = l.take (52 * k) ++ piece l 52 k := by
  rw [piece, Nat.mul_add, List.take_add, Nat.mul_one]
theorem length_lessN {l : List Int} {n i : Nat} (hl : l.length = 52 * n) : ∀ k, k ≤ n → (lessN l i k).length = 52 * (if i < k then k - 1 else k)
  | 0, _ => by simp [lessN]
  | k + 1, hk => by
    rw [lessN, List.length_append, length_lessN hl k (by omega)]
    by_cases e : k = i
    · simp [e]
    · rw [if_neg e, length_piece hl (by omega)]
      by_cases e2 : i < k
      · rw [if_pos e2, if_pos (by omega)]; omega
      · rw [if_neg e2, if_neg (by omega)]; omega
theorem length_swN {l : List Int} {n i j : Nat} (hl : l.length = 52 * n) (hi : i < n) (hj : j < n) : ∀ k, k ≤ n → (swN l i j k).length = 52 * k
  | 0, _ => by simp [swN]
  | k + 1, hk => by
    have h9 : (if k = i then j else if k = j then i else k) < n := by
      split
      · exact hj
      · split
        · exact hi
        · omega
    rw [swN, List.length_append, length_swN hl hi hj k (by omega), length_piece hl h9]
    omega
theorem lessN_low {l : List Int} {n i : Nat} (hl : l.length = 52 * n) : ∀ k, k ≤ i → k ≤ n → lessN l i k = l.take (52 * k)
  | 0, _, _ => by simp [lessN]
  | k + 1, h1, h2 => by
    rw [lessN, lessN_low hl k (by omega) (by omega), if_neg (by omega), take_piece]
theorem lessN_last {l : List Int} {n : Nat} (hl : l.length = 52 * (n + 1)) : lessN l n (n + 1) = l.take (52 * n) := by
  rw [lessN, lessN_low hl n (Nat.le_refl _) (by omega), if_pos rfl, List.append_nil]
theorem piece_end (m x : List Int) (k : Nat) (h : m.length = 52 * k) (hx : x.length = 52) : piece (m ++ x) 52 k = x := by
  rw [piece, List.drop_append, List.drop_eq_nil_of_le (by omega), List.nil_append, h, Nat.sub_self, List.drop_zero, List.take_of_length_le (by omega)]
theorem lessN_at {l : List Int} {n i : Nat} (hl : l.length = 52 * n) (hi : i + 1 < n) : ∀ k, i + 1 < k → k ≤ n → piece (lessN l i k) 52 i = piece l 52 (i + 1)
  | 0, h, _ => by omega
  | k + 1, h, h2 => by
    rw [lessN, if_neg (by omega)]
    by_cases e : k = i + 1
    · subst e
      refine piece_end _ _ _ ?_ (length_piece hl hi)
      rw [length_lessN hl (i + 1) (by omega), if_pos (by omega)]; omega
    · rw [piece_app _ _ _ _ (by rw [length_lessN hl k (by omega), if_pos (by omega)]; omega)]
      exact lessN_at hl hi k (by omega) (by omega)
theorem swN_at {l : List Int} {n i j : Nat} (hl : l.length = 52 * n) (hi : i < n) (hj : j < n) : ∀ k, i < k → k ≤ n → piece (swN l i j k) 52 i = piece l 52 j
  | 0, h, _ => by omega
  | k + 1, h, h2 => by
    rw [swN]
    by_cases e : k = i
    · subst e
      rw [if_pos rfl]
      exact piece_end _ _ _ (length_swN hl hi hj k (by omega)) (length_piece hl hj)
    · rw [piece_app _ _ _ _ (by rw [length_swN hl hi hj k (by omega)]; omega)]
      exact swN_at hl hi hj k (by omega) (by omega)
/-- A LINE WAS TAKEN OUT: the log is taken whole just where it was the last one. -/
theorem less_whole {l : List Int} {n i m : Nat} (h : Lg l n) (hn : n ≤ 100) (hi : i < n) (hm : Cnt (lessN l i n) m) : decide (m * 52 = (lessN l i n).length) = decide (i + 1 = n) := by
  have hl := h.len
  have hz := length_lessN (i := i) hl n (Nat.le_refl _)
  rw [if_pos hi] at hz
  rw [hz]
  by_cases e : i + 1 = n
  · subst e
    have h2 := (h.front i (by omega)).cnt
    rw [lessN_last hl] at hm
    have := hm.uniq h2
    simp [this]
    omega
  · have hw : goodB (lessN l i n) i = false := wrong_seq (q := i + 1) (by omega) (by omega) (by omega) (by
      rw [lessN_at hl (by omega) n (by omega) (Nat.le_refl _)]
      exact h.seq (i + 1) (by omega))
    have := hm.most hw
    simp [e]
    omega
/-- TWO LINES CHANGED PLACES: the log is not taken whole. -/
theorem sw_whole {l : List Int} {n i j m : Nat} (h : Lg l n) (hn : n ≤ 100) (hi : i < n) (hj : j < n) (hij : i ≠ j) (hm : Cnt (swN l i j n) m) : decide (m * 52 = (swN l i j n).length) = false := by
  have hl := h.len
  rw [length_swN hl hi hj n (Nat.le_refl _)]
  have hw : goodB (swN l i j n) i = false := wrong_seq (q := j) (by omega) (by omega) (by omega) (by
    rw [swN_at hl hi hj n (by omega) (Nat.le_refl _)]
    exact h.seq j hj)
  have := hm.most hw
  simp
  omega
end Go.Proofs.YtladijfaeieidaaDoor
