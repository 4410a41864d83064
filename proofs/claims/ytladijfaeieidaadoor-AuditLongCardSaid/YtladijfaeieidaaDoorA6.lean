/- Contracts: the audit's Check. Conditions: lengths that an append may come to. -/
import Derived.Test.YtladijfaeieidaaDoorA5
import Derived.Test.YtladijfaeieidaaDoorC7
import Derived.WalkMore
import Derived.Sort.QuietIn
import Derived.Deep.Cut
namespace Go.Proofs.YtladijfaeieidaaDoor
open Go.RowKit Go.Shelf
attribute [local go_sem] Oper.semAt_some

/-- Is line number k as it must be? -/
def goodB (l : List Int) (k : Nat) : Bool := rightB (piece l 52 k) (wantOf l k)
/-- So many lines are as they must be. -/
structure Cnt (l : List Int) (m : Nat) : Prop where
  le : m ≤ l.length / 52
  good : ∀ j, j < m → goodB l j = true
  stop : m < l.length / 52 → goodB l m = false
set_option maxRecDepth 100000 in
set_option maxHeartbeats 4000000 in
theorem f45 (w : World) (hg : GK w) (a : Option Addr) (n c : Nat) (l : List Int) (hn : n ≤ 100000) (hB : Byt l) (hs : Sv w 5 1 a n c (bv l)) :
    Calls Tryd.prog 45 #[.slice a n c] w fun e w' => ∃ m : Nat, e = .returned (.tuple #[.int .i64 m, .bool (decide (m * 52 = n))]) ∧ Cnt l m ∧ Mods Nix w w' := by
  have hl : l.length = n := by have := hs.len; simpa [bv] using this
  refine calls_marks (fn := Tryd.f45) Tryd.func45 rfl ?_
  simp only [Tryd.ntmps45, List.size_toArray, List.length_cons, List.length_nil, Nat.reduceAdd, Nat.reduceSub, Array.replicate_succ, Array.replicate_zero, List.push_toArray, List.append_toArray, List.nil_append, List.cons_append]
  go_wp2_with fail
  go_step3
  go_wp2_with fail
  go_step3
  obtain ⟨P4, hP4⟩ : ∃ P4, Eqn P4 w.heap.size := ⟨_, ⟨rfl⟩⟩
  obtain ⟨W1, hW1⟩ : ∃ W1, Eqn W1 (w.alloc (.cells #[.int .i64 0] 3)) := ⟨_, ⟨rfl⟩⟩
  rw [← hW1.out, ← hP4.out]
  go_wp2_with (first | (go_at_call 103; refine (f103 _ _ _ _).mono ?_; rintro e w' ⟨rfl, rfl⟩))
  obtain ⟨Bb, hBb⟩ : ∃ Bb, Eqn Bb W1.heap.size := ⟨_, ⟨rfl⟩⟩
  obtain ⟨W3, hW3⟩ : ∃ W3, Eqn W3 (W1.alloc (.cells #[.slice a n c] 22)) := ⟨_, ⟨rfl⟩⟩
  rw [← hW3.out, ← hBb.out]
  have j0 : w.heap.size ≤ P4 ∧ P4 < Bb ∧ Bb < W3.heap.size := by
    have i2 : W1.heap.size = w.heap.size + 1 := by rw [hW1.out]; simp
    have i4 : W3.heap.size = W1.heap.size + 1 := by rw [hW3.out]; simp
    have := hP4.out
    have := hBb.out
    omega
  obtain ⟨j1, j2, j3⟩ := j0
  have hM1 : Mods Nix w W1 := by rw [hW1.out]; exact alloc_mods _ _
  have hM3 : Mods Nix w W3 := by rw [hW3.out]; exact hM1.alloc _
  have bBb : RB W3 Bb 22 [.slice a n c] := by rw [hW3.out, hBb.out]; exact RB.new W1 _ 22
  have b4 : RB W3 P4 3 [.int .i64 0] := by rw [hW3.out, hW1.out, hP4.out]; exact (RB.new w [.int .i64 0] 3).alloc _
  have hs3 := hs.mods hM3 (fun _ _ f => f)
  have hg3 := hg.mods hM3 (fun f => f)
  have hgl := hg.lt
  have hlt : ∀ i, In a i → i < w.heap.size := fun i ⟨ad, e, hb⟩ => by have := hs.lt ad e; omega
  have hit := f138 W3 hg3 Bb a n c l hl hn hB hs3 bBb
  obtain ⟨N, hN⟩ : ∃ N, Eqn N (n / 52) := ⟨_, ⟨rfl⟩⟩
  rw [← hN.out] at hit
  have hnN : 52 * N ≤ n := by rw [hN.out]; omega
  have hnN2 : n < 52 * N + 52 := by rw [hN.out]; omega
  have hfin : ∀ m, m ≤ N → (∀ j, j < m → goodB l j = true) → (m < N → goodB l m = false) → Cnt l m := fun m h1 h2 h3 => ⟨by rw [hl, ← hN.out]; exact h1, h2, fun h => h3 (by rwa [hl, ← hN.out] at h)⟩
  have hl := Eqn.mk hl
  have hTT : ∀ {i}, ((fun _ : Nat => False) i ∨ i = W3.heap.size ∨ i = W3.heap.size + 1) → W3.heap.size ≤ i := fun h => h.elim False.elim (by omega)
  refine range_law (gf := 138) (N := N) (T := fun _ => False) (R := fun i => i = Bb ∨ In a i ∨ i = 0) rfl ?eg hit ?hT ?hR ?hargs
    (fun t A => t ≤ N ∧ (∀ j, j < t → goodB l j = true) ∧ RB A P4 3 [.int .i64 t] ∧ Mods Nix w A)
    (fun c A => ∃ m, c = .exit 0 ∧ m < N ∧ (∀ j, j < m → goodB l j = true) ∧ goodB l m = false ∧ RB A P4 3 [.int .i64 m] ∧ Mods Nix w A) ?hI ?hIx ?h0 ?hround ?hdone ?hstop
  case eg => exact run_enter Tryd.func138 (by kernel_rfl) rfl
  case hT => rintro i h; exact h.elim
  case hR =>
    rintro i (rfl | hi | rfl)
    · omega
    · have := hlt i hi; omega
    · omega
  case hargs =>
    rintro t A args ⟨g, o, c1, a2, c2, rfl, -⟩
    rfl
  case hI =>
    rintro t A B ⟨h1, h2, h3, h4⟩ hm
    exact ⟨h1, h2, h3.mods hm (fun s => by have := hTT s; omega), h4.trans' hm (fun i hi e => by have := hTT e; omega)⟩
  case hIx =>
    rintro c A B ⟨m, rfl, h1, h2, h3, h4, h5⟩ hm
    exact ⟨m, rfl, h1, h2, h3, h4.mods hm (fun s => by have := hTT s; omega), h5.trans' hm (fun i hi e => by have := hTT e; omega)⟩
  case h0 => exact ⟨Nat.zero_le _, fun j h => by omega, b4, hM3⟩
  case hdone =>
    rintro W ⟨h1, h2, h3, h4⟩ hK
    have c4 : W.cell? ⟨P4, 0, none⟩ = some (.int .i64 N) := h3.cell rfl
    have hC := hfin N (Nat.le_refl _) h2 (fun h => by omega)
    simp only [Exit.inBlock, Exit.then]
    go_at_K
    go_wp2_with fail
    go_quiet (fail)
    simp only [Exit.then]
    go_at_K
    go_wp2_with fail
    have hK' : (W.drewN nq).heap[W3.heap.size]? = some (.deferred (some [])) := hK
    refine marks_ret (R := fun e w' => ∃ m : Nat, e = .returned (.tuple #[.int .i64 m, .bool (decide (m * 52 = n))]) ∧ Cnt l m ∧ Mods Nix w w') hK' (results_tmp2 rfl _ _ _) ⟨N, ?_, hC, (h4.drewN _).putObj (.inr (by omega)) _⟩
    have e9 : ((N : Int) * 52 == (n : Int)) = decide (N * 52 = n) := by rw [Bool.eq_iff_iff, beq_iff_eq, decide_eq_true_iff]; omega
    show Ending.returned (.tuple #[.int .i64 N, .bool ((N : Int) * 52 == (n : Int))]) = _
    rw [e9]
  case hstop =>
    rintro c W ⟨m, rfl, h1, h2, h3, h4, h5⟩ hK
    have c4 : W.cell? ⟨P4, 0, none⟩ = some (.int .i64 m) := h4.cell rfl
    have hC := hfin m (Nat.le_of_lt h1) h2 (fun _ => h3)
    go_wp2_with fail
    go_quiet (fail)
    simp only [Exit.then]
    go_at_K
    go_wp2_with fail
    have hK' : (W.drewN nq).heap[W3.heap.size]? = some (.deferred (some [])) := hK
    refine marks_ret (R := fun e w' => ∃ m : Nat, e = .returned (.tuple #[.int .i64 m, .bool (decide (m * 52 = n))]) ∧ Cnt l m ∧ Mods Nix w w') hK' (results_tmp2 rfl _ _ _) ⟨m, ?_, hC, (h5.drewN _).putObj (.inr (by omega)) _⟩
    have e9 : ((m : Int) * 52 == (n : Int)) = decide (m * 52 = n) := by rw [Bool.eq_iff_iff, beq_iff_eq, decide_eq_true_iff]; omega
    show Ending.returned (.tuple #[.int .i64 m, .bool ((m : Int) * 52 == (n : Int))]) = _
    rw [e9]
  case hround =>
    rintro lp t A args ht ⟨h1, h2, h3, h4⟩ ⟨g, o, c1, a2, c2, rfl, hA1, hA2⟩ hlt2 hlp hdf
    gi_wp2
    intro W4 hm4
    have hz4 := hm4.size
    have hA14 := hA1.mods hm4
    have h34 := h3.mods hm4 (by omega)
    have c4 : W4.cell? ⟨P4, 0, none⟩ = some (.int .i64 t) := h34.cell rfl
    have f4 := h34.free 0
    have hcl : ∀ {x : Option Addr} {nx cx : Nat} {r : List Int}, Sv A 5 1 x nx cx (bv r) → Sv W4 5 1 x nx cx (bv r) := fun hS => hS.mods hm4 (fun i ⟨ad, e, hb'⟩ e2 => by
      obtain ⟨_, cur, t', fz, hb, _⟩ := hS.cells ad e
      obtain ⟨r, hlp⟩ := hlp
      rw [hb', e2, hlp] at hb; simp at hb)
    have T104 := f104 W4 g o 52 c1 _ (hcl hA1) (by omega) (hB.sub _ _) a2 52 c2 _ (hcl hA2) (byt_lineOf _ _ _ _ _ _)
    have hW4 : Mods Nix w W4 := h4.trans' hm4 (fun i hi e => by omega)
    by_cases hgd : goodB l t = true
    · have e1 : rightB (piece l 52 t) (wantOf l t) = true := hgd
      rw [e1] at T104
      gi_wp2
      refine ⟨trivial, rfl, (CallsIn.inRound lp (callsIn_wide.2 T104)).mono ?_⟩
      rintro e W5 ⟨rfl, hM5⟩
      have c5 := hM5.cell c4 (fun f => f)
      have h35 := h34.mods hM5 (fun f => f)
      have f5 := h35.free 0
      gi_wp2
      have hm5 : Mods (fun i => i = P4) W4 (W5.setCell ⟨P4, 0, none⟩ (.int .i64 ((t : Int) + 1))) := Mods.setCell (S := fun i => i = P4) (hM5.mono (fun _ _ f => f.elim)) (.inl rfl) _
      refine ⟨hm5.block _ (by omega) (by omega), hm5.block _ (by omega) (by omega), fun i hi => hm5.block i ?_ ?_, hm5.size, ht, fun j hj => ?_, h35.set 0 _, hW4.trans' hm5 (fun i hi e => by omega)⟩
      · rcases hi with rfl | hi | rfl
        · omega
        · have := hlt i hi; have := hM3.size; omega
        · omega
      · rcases hi with rfl | hi | rfl
        · omega
        · have := hlt i hi; omega
        · omega
      · by_cases hj2 : j = t
        · rw [hj2]; exact hgd
        · exact h2 j (by omega)
    · have e1 : rightB (piece l 52 t) (wantOf l t) = false := by simpa [goodB] using hgd
      rw [e1] at T104
      gi_wp2
      refine ⟨trivial, rfl, (CallsIn.inRound lp (callsIn_wide.2 T104)).mono ?_⟩
      rintro e W5 ⟨rfl, hM5⟩
      gi_wp2
      exact ⟨hM5.block _ (by omega) (fun f => f), hM5.block _ (by omega) (fun f => f), rfl, t, ht, h2, e1, h34.mods hM5 (fun f => f), hW4.trans' hM5 (fun _ _ f => f)⟩
end Go.Proofs.YtladijfaeieidaaDoor
