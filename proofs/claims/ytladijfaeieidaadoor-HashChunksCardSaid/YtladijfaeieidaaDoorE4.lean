/- The walk of HashChunks: it answers true. Condition: the table of constants stands. -/
import Derived.Test.YtladijfaeieidaaDoorE2
import Derived.Test.YtladijfaeieidaaDoorM2
import Derived.Test.YtladijfaeieidaaDoorS1
import Derived.Sort.QuietIn
import Derived.Deep.Cut
namespace Go.Proofs.YtladijfaeieidaaDoor
open Go.RowKit Go.Shelf
attribute [local go_sem] Oper.semAt_some

/-- Pieces of less than a byte: there are none. -/
theorem f97z (w : World) (Bn Bb : Nat) (m : Int) (hm : m < 1) (hBn : RB w Bn 3 [.int .i64 m]) :
    Iter Tryd.prog 97 #[.pointer (some ⟨Bn, 0, none⟩), .pointer (some ⟨Bb, 0, none⟩)] w 0 (fun _ _ _ => False) (fun _ => False) (fun _ => False) := by
  intro L J Jx W hW hWs hJ hJx hY h0
  refine (callsIn_wide (n := 1)).1 (callsIn_of_wp Tryd.func97 rfl trivial ?_ rfl)
  simp only [Tryd.ntmps97, List.size_toArray, List.length_cons, List.length_nil, Nat.reduceAdd, Nat.reduceSub, Array.replicate_succ, Array.replicate_zero, List.push_toArray, List.append_toArray, List.nil_append, List.cons_append]
  have hb1 := hBn.lt
  have e1 : W.cell? ⟨Bn, 0, none⟩ = some (.int .i64 m) := (RB.mk ((hW _ hb1).trans hBn.heap)).cell rfl
  gi_wp2
  exact bodyPost_ret (results_none rfl _ _ _) rfl ⟨⟨_, rfl⟩, .inl h0⟩

/-- A function is not nil. -/
theorem eqFn40 (w : World) (f : Nat) (lb : Array Value) : (binOp BinOp.eql 40 (.func (.func f) #[] lb) .nilFunc).run Tryd.prog w = .ok (.bool false) w := by
  kernel_rfl
/-- The variables of HashChunks. -/
structure ChS (w : World) (H H1 H2 H3 P7 P9 P10 : Nat) (a : Option Addr) (n c : Nat) (l : List Int) (m most kk pos : Int) (A : World) : Prop where
  b0 : RB A H 22 [.slice a n c]
  b1 : RB A H1 3 [.int .i64 m]
  b2 : RB A H2 3 [.int .i64 most]
  b3 : ∃ v, RB A H3 4 [.bool v]
  b7 : RB A P7 4 [.bool true]
  b9 : RB A P9 3 [.int .i64 kk]
  b10 : RB A P10 3 [.int .i64 pos]
  sv : Sv A 5 1 a n c (bv l)
  mods : Mods Nix w A
theorem ChS.go {w : World} {H H1 H2 H3 P7 P9 P10 : Nat} {a : Option Addr} {n c : Nat} {l : List Int} {m most kk pos : Int} {A B : World} {S : Nat → Prop} (h : ChS w H H1 H2 H3 P7 P9 P10 a n c l m most kk pos A) (hM : Mods S A B)
    (hS : ∀ i, S i → w.heap.size ≤ i ∧ i ≠ H ∧ i ≠ H1 ∧ i ≠ H2 ∧ i ≠ H3 ∧ i ≠ P7 ∧ i ≠ P9 ∧ i ≠ P10 ∧ ¬ In a i) : ChS w H H1 H2 H3 P7 P9 P10 a n c l m most kk pos B := by
  obtain ⟨v, h3⟩ := h.b3
  refine ⟨h.b0.mods hM (fun s => ?_), h.b1.mods hM (fun s => ?_), h.b2.mods hM (fun s => ?_), ⟨v, h3.mods hM (fun s => ?_)⟩, h.b7.mods hM (fun s => ?_), h.b9.mods hM (fun s => ?_), h.b10.mods hM (fun s => ?_), h.sv.mods hM (fun i hi s => (hS i s).2.2.2.2.2.2.2.2 hi), h.mods.trans' hM (fun i hi s => ?_)⟩
  all_goals (have := hS _ s; omega)
theorem ChS.step {w : World} {H H1 H2 H3 P7 P9 P10 : Nat} {a : Option Addr} {n c : Nat} {l : List Int} {m most kk pos : Int} {A : World} (h : ChS w H H1 H2 H3 P7 P9 P10 a n c l m most kk pos A) (nq : Nat) (kk' pos' : Int)
    (j1 : w.heap.size ≤ H) (j2 : H < H1) (j3 : H1 < H2) (j4 : H2 < H3) (j5 : H3 < P7) (j6 : P7 < P9) (j7 : P9 < P10) (hlt : ∀ i, In a i → i < w.heap.size) :
    ChS w H H1 H2 H3 P7 P9 P10 a n c l m most kk' pos' (((A.drewN nq).setCell ⟨P10, 0, none⟩ (.int .i64 pos')).setCell ⟨P9, 0, none⟩ (.int .i64 kk')) := by
  have hm : Mods (fun i => i = P10 ∨ i = P9) A (((A.drewN nq).setCell ⟨P10, 0, none⟩ (.int .i64 pos')).setCell ⟨P9, 0, none⟩ (.int .i64 kk')) :=
    Mods.setCell (S := fun i => i = P10 ∨ i = P9) (Mods.setCell (S := fun i => i = P10 ∨ i = P9) ((Mods.refl _ A).drewN nq) (.inl (.inl rfl)) _) (.inl (.inr rfl)) _
  obtain ⟨v, h3⟩ := h.b3
  refine ⟨h.b0.mods hm (by omega), h.b1.mods hm (by omega), h.b2.mods hm (by omega), ⟨v, h3.mods hm (by omega)⟩, h.b7.mods hm (by omega), ?_, ?_, h.sv.mods hm (fun i hi e => by have := hlt i hi; omega), h.mods.trans' hm (fun i hi e => by omega)⟩
  · exact ((h.b9.drewN nq).other _ (by simp; omega)).set 0 _
  · exact ((h.b10.drewN nq).set 0 _).other _ (by simp; omega)
set_option maxRecDepth 100000 in
set_option maxHeartbeats 4000000 in
theorem f6p (w : World) (hg : GK w) (a : Option Addr) (n0 c : Nat) (l0 : List Int) (hs0 : Sv w 5 1 a n0 c (bv l0)) (M : Nat) (hm : 1 ≤ M) (hM2 : (M : Int) ≤ 9223372036854775807) (most : Int) :
    Calls Tryd.prog 6 #[.slice a n0 c, .int .i64 M, .int .i64 most] w fun e w' => e = .returned (.bool true) ∧ Mods Nix w w' := by
  have hs := sv_min hs0 300
  have hn3 := Nat.min_le_right n0 300
  have T24 : ∀ w1, Calls Tryd.prog 24 #[.slice a n0 c, .int .i64 300] w1 fun e w' => e = .returned (.slice a (min n0 300) c) ∧ w1 = w' := fun w1 => f24w w1 a n0 c hs0.le 300 300 rfl (by omega)
  obtain ⟨n, hn⟩ : ∃ n, n = min n0 300 := ⟨_, rfl⟩
  rw [← hn] at hs hn3 T24
  clear hn
  obtain ⟨l, hl⟩ : ∃ l, l = l0.take 300 := ⟨_, rfl⟩
  rw [← hl] at hs
  clear hl
  obtain ⟨H, hH⟩ : ∃ H, Eqn H w.heap.size := ⟨_, ⟨rfl⟩⟩
  obtain ⟨W0, hW0⟩ : ∃ W0, Eqn W0 ((((w.alloc (.cells #[.slice a n0 c] 22)).alloc (.cells #[.int .i64 M] 3)).alloc (.cells #[.int .i64 most] 3)).alloc (.cells #[.bool false] 4)) := ⟨_, ⟨rfl⟩⟩
  have hM0 : Mods Nix w W0 := by rw [hW0.out]; exact (((((Mods.refl Nix w).alloc _).alloc _).alloc _).alloc _)
  have T23 := f23 W0 (hg.mods hM0 (fun f => f))
  refine calls_marks (fn := Tryd.f6) Tryd.func6 rfl ?_
  simp only [Tryd.ntmps6, List.size_toArray, List.length_cons, List.length_nil, Nat.reduceAdd, Nat.reduceSub, Array.replicate_succ, Array.replicate_zero, List.push_toArray, List.append_toArray, List.nil_append, List.cons_append]
  have h0 : RB W0 H 22 [.slice a n0 c] ∧ RB W0 (H + 1) 3 [.int .i64 M] ∧ RB W0 (H + 2) 3 [.int .i64 most] ∧ RB W0 (H + 3) 4 [.bool false] ∧ W0.heap.size = H + 4 := by
    rw [hW0.out, hH.out]
    have q0 := RB.new w [.slice a n0 c] 22
    have q1 := RB.new (w.alloc (.cells #[.slice a n0 c] 22)) [.int .i64 M] 3
    have q2 := RB.new ((w.alloc (.cells #[.slice a n0 c] 22)).alloc (.cells #[.int .i64 M] 3)) [.int .i64 most] 3
    have q3 := RB.new (((w.alloc (.cells #[.slice a n0 c] 22)).alloc (.cells #[.int .i64 M] 3)).alloc (.cells #[.int .i64 most] 3)) [.bool false] 4
    simp only [World.size_alloc] at q1 q2 q3
    exact ⟨((q0.alloc _).alloc _).alloc _, (q1.alloc _).alloc _, q2.alloc _, q3, by simp⟩
  obtain ⟨r0, r1, r2, r3, hz0'⟩ := h0
  have hz0 := Eqn.mk hz0'
  clear hz0'
  have kf := fun (w : World) (lb : Array Value) => eqFn40 w 97 lb
  go_upto_region 1 with fail
  rw [← hW0.out, ← hH.out]
  go_upto_region 2 with (first | (go_at_call 23; with_reducible refine T23.mono ?_; rintro e w1 ⟨rfl, hM1⟩))
  obtain ⟨W2, hW2⟩ : ∃ W2, Eqn W2 (w1.alloc (.cells #[.bool true] 4)) := ⟨_, ⟨rfl⟩⟩
  obtain ⟨P7, hP7⟩ : ∃ P7, Eqn P7 w1.heap.size := ⟨_, ⟨rfl⟩⟩
  rw [← hW2.out, ← hP7.out]
  have hM2' : Mods Nix W0 W2 := by rw [hW2.out]; exact hM1.alloc _
  have r7 : RB W2 P7 4 [.bool true] := by rw [hW2.out, hP7.out]; exact RB.new w1 [_] 4
  have hPH : H + 3 < P7 := by have := hM1.size; rw [hz0.out, ← hP7.out] at this; omega
  have q0 := r0.mods hM2' (fun f => f)
  have q1 := r1.mods hM2' (fun f => f)
  have e3 := q0.cell (i := 0) rfl
  have e3f := q0.free 0
  have e4 := q1.cell (i := 0) rfl
  clear T23
  go_upto_region 6 with (first | (go_at_call 24; with_reducible refine (T24 _).mono ?_; rintro e w' ⟨rfl, rfl⟩) | (go_at_call 37; with_reducible refine (f37 _ _ _ _ _).mono ?_; rintro e w' ⟨rfl, rfl⟩))
  clear kf
  obtain ⟨Bb, hBb⟩ : ∃ Bb, Eqn Bb W2.heap.size := ⟨_, ⟨rfl⟩⟩
  obtain ⟨W4, hW4⟩ : ∃ W4, Eqn W4 (((W2.setCell ⟨H, 0, none⟩ (.slice a n c)).alloc (.cells #[.slice a n c] 22)).alloc (.cells #[.int .i64 M] 3)) := ⟨_, ⟨rfl⟩⟩
  rw [← hW4.out, ← hBb.out]
  go_wp2_with fail
  obtain ⟨P9, hP9⟩ : ∃ P9, Eqn P9 W4.heap.size := ⟨_, ⟨rfl⟩⟩
  obtain ⟨P10, hP10⟩ : ∃ P10, Eqn P10 (P9 + 1) := ⟨_, ⟨rfl⟩⟩
  obtain ⟨W6, hW6⟩ : ∃ W6, Eqn W6 ((W4.alloc (.cells #[.int .i64 0] 3)).alloc (.cells #[.int .i64 0] 3)) := ⟨_, ⟨rfl⟩⟩
  rw [← hW6.out, ← hP9.out, ← hP10.out]
  obtain ⟨H3, hH3⟩ : ∃ H3, Eqn H3 (H + 1 + 1 + 1) := ⟨_, ⟨rfl⟩⟩
  obtain ⟨H2, hH2⟩ : ∃ H2, Eqn H2 (H + 1 + 1) := ⟨_, ⟨rfl⟩⟩
  obtain ⟨H1, hH1⟩ : ∃ H1, Eqn H1 (H + 1) := ⟨_, ⟨rfl⟩⟩
  obtain ⟨Bn, hBn⟩ : ∃ Bn, Eqn Bn (Bb + 1) := ⟨_, ⟨rfl⟩⟩
  rw [← hH3.out, ← hH2.out, ← hH1.out, ← hBn.out]
  have i1 := hH.out
  have i2 := hz0.out
  have i3 := hH1.out
  have i4 := hH2.out
  have i5 := hH3.out
  have i6 := hP7.out
  have i7 := hBb.out
  have i8 := hBn.out
  have i9 : W2.heap.size = P7 + 1 := by rw [hW2.out, hP7.out]; simp
  have i10 : W4.heap.size = W2.heap.size + 2 := by rw [hW4.out]; simp
  have i11 := hP9.out
  have i12 := hP10.out
  have i13 : W6.heap.size = W4.heap.size + 2 := by rw [hW6.out]; simp
  have hM4 : Mods (fun i => i = H) W2 W4 := by rw [hW4.out]; exact ((Mods.setCell (S := fun i => i = H) (Mods.refl _ W2) (.inl rfl) _).alloc _).alloc _
  have hM6 : Mods Nix W4 W6 := by rw [hW6.out]; exact ((Mods.refl _ W4).alloc _).alloc _
  have hM46 : Mods (fun i => i = H) W2 W6 := hM4.trans' hM6 (fun _ _ f => f.elim)
  have hM06 : Mods Nix w W6 := (hM0.trans' hM2' (fun _ _ f => f)).trans' hM46 (fun i hi e => by omega)
  have hlt : ∀ i, In a i → i < w.heap.size := fun i ⟨ad, e, hb⟩ => by have := hs.lt ad e; omega
  have hl : l.length = n := by have := hs.len; simpa [bv] using this
  have hP := pcs n M hm
  obtain ⟨N, hN⟩ : ∃ N, Eqn N ((n + M - 1) / M) := ⟨_, ⟨rfl⟩⟩
  rw [← hN.out] at hP
  have b0' : RB W6 H 22 [.slice a n c] := by
    rw [hW6.out, hW4.out]
    exact (((((q0.set 0 (.slice a n c)).alloc _).alloc _).alloc _).alloc _)
  have bBb : RB W6 Bb 22 [.slice a n c] := by
    rw [hW6.out, hW4.out, hBb.out]
    have := (((RB.new (W2.setCell ⟨H, 0, none⟩ (.slice a n c)) [.slice a n c] 22).alloc (.cells #[.int .i64 M] 3)).alloc (.cells #[.int .i64 0] 3)).alloc (.cells #[.int .i64 0] 3)
    simpa using this
  have bBn : RB W6 Bn 3 [.int .i64 M] := by
    rw [hW6.out, hW4.out, hBn.out, hBb.out]
    have := ((RB.new ((W2.setCell ⟨H, 0, none⟩ (.slice a n c)).alloc (.cells #[.slice a n c] 22)) [.int .i64 M] 3).alloc (.cells #[.int .i64 0] 3)).alloc (.cells #[.int .i64 0] 3)
    simpa using this
  have b9' : RB W6 P9 3 [.int .i64 0] := by
    rw [hW6.out, hP9.out]
    exact (RB.new W4 [.int .i64 0] 3).alloc _
  have b10' : RB W6 P10 3 [.int .i64 0] := by
    rw [hW6.out, hP10.out, hP9.out]
    have := RB.new (W4.alloc (.cells #[.int .i64 0] 3)) [.int .i64 0] 3
    simpa using this
  have hC6 : ChS w H H1 H2 H3 P7 P9 P10 a n c l M most 0 0 W6 := by
    refine ⟨b0', ?_, ?_, ⟨false, ?_⟩, r7.mods hM46 (by omega), b9', b10', hs.mods hM06 (fun _ _ f => f), hM06⟩
    · rw [hH1.out]; exact (r1.mods hM2' (fun f => f)).mods hM46 (by omega)
    · rw [hH2.out]; exact (r2.mods hM2' (fun f => f)).mods hM46 (by omega)
    · rw [hH3.out]; exact (r3.mods hM2' (fun f => f)).mods hM46 (by omega)
  have hsv6 := hC6.sv
  have hnc := hsv6.le
  have hit := f97 W6 Bn Bb M hm a n c l hl (lim_c (by omega)) hsv6 bBn bBb N hP (by omega) (fun hi => by have := hlt _ hi; have := hM0.size; omega)
  have hw0 := hM0.size
  clear b0' b9' b10' e3 e3f e4 q0 q1 r0 r1 r2 r3 r7 hs0 hg T24 hM4 hM6 hM46 hM2' hM1
  have jj : w.heap.size ≤ H ∧ H < H1 ∧ H1 < H2 ∧ H2 < H3 ∧ H3 < P7 ∧ P7 < Bb ∧ Bb < Bn ∧ Bn < P9 ∧ P9 < P10 ∧ P10 < W6.heap.size := by
    refine ⟨?_, ?_, ?_, ?_, ?_, ?_, ?_, ?_, ?_, ?_⟩ <;> omega
  obtain ⟨j1, j2, j3, j4, j5, j6, j7, j8, j9, j10⟩ := jj
  clear i1 i2 i3 i4 i5 i6 i7 i8 i9 i10 i11 i12 i13
  have hl := Eqn.mk hl
  refine range_law (gf := 97) (N := N) (T := fun i => i = Bb) (R := fun i => i = Bb ∨ i = Bn ∨ In a i) rfl ?eg hit ?hT ?hR ?hargs
    (fun t A => M * t ≤ n + M ∧ ChS w H H1 H2 H3 P7 P9 P10 a n c l M most (t : Int) ((min (M * t) n : Nat) : Int) A)
    (fun c A => c = .ret ∧ RB A H3 4 [.bool true] ∧ Mods Nix w A) ?hI ?hIx ?h0 ?hround ?hdone ?hstop
  case eg => exact run_enter Tryd.func97 (by kernel_rfl) rfl
  case hT => rintro i rfl; omega
  case hR =>
    rintro i (rfl | rfl | hi)
    · omega
    · omega
    · have := hlt i hi; omega
  case hargs =>
    rintro t A args ⟨a2, c2, rfl, -⟩
    rfl
  case hI =>
    rintro t A B ⟨h1, h2⟩ hm
    refine ⟨h1, h2.go hm (fun i hi => ?_)⟩
    have h9 : ¬ In a i := fun h => by have := hlt i h; omega
    refine ⟨?_, ?_, ?_, ?_, ?_, ?_, ?_, ?_, h9⟩ <;> omega
  case hIx =>
    rintro c A B ⟨rfl, h1, h2⟩ hm
    exact ⟨rfl, h1.mods hm (by omega), h2.trans' hm (fun i hi e => by omega)⟩
  case h0 =>
    refine ⟨by omega, ?_⟩
    simpa using hC6
  case hstop =>
    rintro c W ⟨rfl, h1, h2⟩ hK
    refine wp_ret ?_
    have hmp := (Mods.refl (fun i => i = W6.heap.size) W).putObj (g := W6.heap.size) (.inl rfl) (.deferred none)
    refine marks_ret (R := fun e w' => e = .returned (.bool true) ∧ Mods Nix w w') (v := .bool true) hK (res_cell4 rfl _ _ H3 true rfl ((h1.mods hmp (by omega)).cell (i := 0) rfl)) ⟨rfl, ?_⟩
    exact h2.trans' hmp (fun i hi e => by omega)
  case hdone =>
    rintro W ⟨h1, h2⟩ hK
    have hNn : n ≤ M * N := by
      rcases Nat.lt_or_ge (M * N) n with h | h
      · have := (hP.iff N).2 h; omega
      · exact h
    rw [Nat.min_eq_right hNn] at h2
    have b0 : W.cell? ⟨H, 0, none⟩ = some (.slice a n c) := h2.b0.cell rfl
    have b1 : W.cell? ⟨H1, 0, none⟩ = some (.int .i64 M) := h2.b1.cell rfl
    have b7 : W.cell? ⟨P7, 0, none⟩ = some (.bool true) := h2.b7.cell rfl
    have b9 : W.cell? ⟨P9, 0, none⟩ = some (.int .i64 N) := h2.b9.cell rfl
    have b10 : W.cell? ⟨P10, 0, none⟩ = some (.int .i64 n) := h2.b10.cell rfl
    obtain ⟨v, h3⟩ := h2.b3
    have b3 : W.cell? ⟨H3, 0, none⟩ = some (.bool v) := h3.cell rfl
    have f3 := h3.free 0
    have hm1 : (1 : Int) ≤ M := by omega
    have hWM := h2.mods
    clear h1 h2 hNn
    simp only [Exit.inBlock, Exit.then]
    go_at_K
    go_wp2_with fail
    have hm6 : Mods (fun i => i = H3) W (W.setCell ⟨H3, 0, none⟩ (.bool true)) := (Mods.refl (fun i => i = H3) W).setCell (.inl rfl) _
    have hK' : (W.setCell ⟨H3, 0, none⟩ (.bool true)).heap[W6.heap.size]? = some (.deferred (some [])) := hm6.heap hK (by omega)
    have hmp := (Mods.refl (fun i => i = W6.heap.size) (W.setCell ⟨H3, 0, none⟩ (.bool true))).putObj (g := W6.heap.size) (.inl rfl) (.deferred none)
    refine marks_ret (R := fun e w' => e = .returned (.bool true) ∧ Mods Nix w w') (v := .bool true) hK' (res_cell4 rfl _ _ H3 true rfl (((h3.set 0 (.bool true)).mods hmp (by omega)).cell (i := 0) rfl)) ⟨rfl, ?_⟩
    exact (hWM.trans' hm6 (fun i hi e => by omega)).trans' hmp (fun i hi e => by omega)
  case hround =>
    rintro lp t A args ht ⟨h5, h6⟩ ⟨a2, c2, rfl, hOa, hNa, hna⟩ hlt2 hlp hdf
    have htn : M * t < n := (hP.iff t).1 ht
    rw [Nat.min_eq_left (by omega)] at h6
    obtain ⟨pl, hpl⟩ : ∃ pl, Eqn pl (piece l M t) := ⟨_, ⟨rfl⟩⟩
    obtain ⟨pn, hpn⟩ : ∃ pn, Eqn pn pl.length := ⟨_, ⟨rfl⟩⟩
    rw [← hpl.out] at hOa ⊢
    rw [← hpn.out] at hOa ⊢
    have hpn2 : Eqn pn (min M (n - M * t)) := ⟨by rw [hpn.out, hpl.out, piece, List.length_take, List.length_drop, hl.out]⟩
    obtain ⟨pos, hpos⟩ : ∃ pos, Eqn pos (M * t) := ⟨_, ⟨rfl⟩⟩
    rw [← hpos.out] at h6 htn
    have hp2 : pos + pn ≤ n := by have := hpn2.out; have := hpos.out; omega
    have hp0 : 0 < pn := by have := hpos.out; have := hpn2.out; omega
    gi_wp2
    refine ⟨trivial, trivial, fun _ _ => trivial, Nat.le_refl _, fun W4 hm4 => ?_⟩
    have hz4 := hm4.size
    have hcl : ∀ i, In a2 i → i ≠ W6.heap.size + 1 := by
      rintro i ⟨ad, e, rfl⟩ e2
      obtain ⟨_, cur, t', fz, hb', _⟩ := hOa.toSv.cells ad e
      obtain ⟨r, hlp⟩ := hlp
      rw [e2, hlp] at hb'; simp at hb'
    have hOa4 : Sv W4 5 1 a2 pn c2 (bv pl) := hOa.toSv.mods hm4 (fun i hi => hcl i hi)
    have h64 := h6.go hm4 (fun i hi => by
      have h9 : ¬ In a i := fun h => by have := hlt i h; omega
      refine ⟨?_, ?_, ?_, ?_, ?_, ?_, ?_, ?_, h9⟩ <;> omega)
    have b0 : W4.cell? ⟨H, 0, none⟩ = some (.slice a n c) := h64.b0.cell rfl
    have b1 : W4.cell? ⟨H1, 0, none⟩ = some (.int .i64 M) := h64.b1.cell rfl
    have b2 : W4.cell? ⟨H2, 0, none⟩ = some (.int .i64 most) := h64.b2.cell rfl
    have b7 : W4.cell? ⟨P7, 0, none⟩ = some (.bool true) := h64.b7.cell rfl
    have b9 : W4.cell? ⟨P9, 0, none⟩ = some (.int .i64 t) := h64.b9.cell rfl
    have b10 : W4.cell? ⟨P10, 0, none⟩ = some (.int .i64 pos) := h64.b10.cell rfl
    have f9 := h64.b9.free 0
    have f10 := h64.b10.free 0
    obtain ⟨v, h3⟩ := h64.b3
    have b3 : W4.cell? ⟨H3, 0, none⟩ = some (.bool v) := h3.cell rfl
    have f3 := h3.free 0
    have hWM := h64.mods
    have k1 := fun m => conv (hOa4.mods ((Mods.refl Nix W4).drewN m) (fun _ _ f => f))
    have hsv4 := h64.sv
    have hpl2 : (l.drop pos).take pn = pl := by
      rw [hpl.out, piece, hpos.out]
      rw [hpn2.out]
      rcases Nat.le_total M (n - M * t) with h | h
      · rw [Nat.min_eq_left h]
      · rw [Nat.min_eq_right h, List.take_of_length_le (by rw [List.length_drop, hl.out]; exact Nat.le_refl _), List.take_of_length_le (by rw [List.length_drop, hl.out]; exact h)]
    have hpn0 : ((pn : Int) == 0) = false := by simp; omega
    have hm1 : (1 : Int) ≤ M := by omega
    have ht300 : (t : Int) ≤ 300 := by
      have h1 : t ≤ M * t := Nat.le_mul_of_pos_left t hm
      have := hpos.out
      omega
    have hnew : ((pos + pn : Nat) : Int) = ((min (M * (t + 1)) n : Nat) : Int) := by
      have e1 := hpos.out
      have e2 := hpn2.out
      have e3 : M * (t + 1) = M * t + M := by rw [Nat.mul_add, Nat.mul_one]
      rw [e3, ← e1]
      rw [← e1] at e2
      omega
    clear h6 hOa hOa4 hcl hna hNa
    by_cases hc : (M : Int) < n - pos
    · have hpnM : pn = M := by have := hpn2.out; have := hpos.out; omega
      have hpnI' : Eqn ((pos + pn : Nat) : Int) ((pos : Int) + M) := ⟨by rw [hpnM]; omega⟩
      obtain ⟨a3, ks, kv, -⟩ := cut_facts (a := a) (n := n) (c := c) pos (pos + pn) (pos : Int) ((pos : Int) + M) rfl (by omega) (by omega) hp2 hnc
      rw [Nat.add_sub_cancel_left] at ks kv
      have hq := kv W4 l hsv4
      rw [hpl2] at hq
      have k2 := fun m => conv (hq.mods ((Mods.refl Nix W4).drewN m) (fun _ _ f => f))
      have hmd : decide ((M : Int) < 1) = false := decide_eq_false (by omega)
      clear kv hq hpnM hpl2
      gi_wp2
      refine region_quiet_round (by kernel_rfl) (by kernel_rfl) (by kernel_rfl) ?_
      repeat (gi_big_quiet_step (fail))
      refine wpQuietIn_nil ?_
      intro _ hw'
      obtain ⟨nq, hw''⟩ := hw'
      subst hw''
      by_cases hmo : (t : Int) + 1 = most
      · have he : (((t : Int) + 1) == most) = true := by simpa using hmo
        gi_wp2
        have hmm : Mods (fun i => i = P10 ∨ i = P9 ∨ i = H3) W4 ((((W4.drewN nq).setCell ⟨P10, 0, none⟩ (.int .i64 ((pos : Int) + M))).setCell ⟨P9, 0, none⟩ (.int .i64 most)).setCell ⟨H3, 0, none⟩ (.bool true)) :=
          Mods.setCell (S := fun i => i = P10 ∨ i = P9 ∨ i = H3) (Mods.setCell (S := fun i => i = P10 ∨ i = P9 ∨ i = H3) (Mods.setCell (S := fun i => i = P10 ∨ i = P9 ∨ i = H3) ((Mods.refl _ W4).drewN nq) (.inl (.inl rfl)) _) (.inl (.inr (.inl rfl))) _) (.inl (.inr (.inr rfl))) _
        exact ⟨hmm.block _ (by omega) (by omega), hmm.block _ (by omega) (by omega), rfl, (((h3.drewN nq).other _ (by simp; omega)).other _ (by simp; omega)).set 0 _, hWM.trans' hmm (fun i hi e => by omega)⟩
      · have he : (((t : Int) + 1) == most) = false := by simpa using hmo
        gi_wp2
        have hmm : Mods (fun i => i = P10 ∨ i = P9) W4 (((W4.drewN nq).setCell ⟨P10, 0, none⟩ (.int .i64 ((pos : Int) + M))).setCell ⟨P9, 0, none⟩ (.int .i64 ((t : Int) + 1))) :=
          Mods.setCell (S := fun i => i = P10 ∨ i = P9) (Mods.setCell (S := fun i => i = P10 ∨ i = P9) ((Mods.refl _ W4).drewN nq) (.inl (.inl rfl)) _) (.inl (.inr rfl)) _
        refine ⟨hmm.block _ (by omega) (by omega), hmm.block _ (by omega) (by omega), fun i hi => hmm.block i ?_ ?_, hmm.size, ?_, ?_⟩
        · rcases hi with rfl | rfl | hi
          · omega
          · omega
          · have := hlt i hi; omega
        · rcases hi with rfl | rfl | hi
          · omega
          · omega
          · have := hlt i hi; omega
        · have := hpos.out; rw [Nat.mul_add]; omega
        · rw [← hnew, hpnI'.out]
          exact h64.step nq _ _ j1 j2 j3 j4 j5 (by omega) (by omega) hlt
    · have hc2 : ¬ (M : Int) < (n : Int) - pos := hc
      have hto : pos + pn = n := by have := hpn2.out; have := hpos.out; omega
      obtain ⟨a3, ks, kv, -⟩ := cut_facts (a := a) (n := n) (c := c) pos (pos + pn) (pos : Int) (n : Int) rfl (by omega) (by omega) hp2 hnc
      rw [Nat.add_sub_cancel_left] at ks kv
      have hq := kv W4 l hsv4
      rw [hpl2] at hq
      have k2 := fun m => conv (hq.mods ((Mods.refl Nix W4).drewN m) (fun _ _ f => f))
      have hmd : decide ((M : Int) < 1) = false := decide_eq_false (by omega)
      have hnewn : Eqn ((pos + pn : Nat) : Int) (n : Int) := ⟨by rw [hto]⟩
      clear kv hq hto hpl2
      gi_wp2
      refine region_quiet_round (by kernel_rfl) (by kernel_rfl) (by kernel_rfl) ?_
      repeat (gi_big_quiet_step (fail))
      refine wpQuietIn_nil ?_
      intro _ hw'
      obtain ⟨nq, hw''⟩ := hw'
      subst hw''
      by_cases hmo : (t : Int) + 1 = most
      · have he : (((t : Int) + 1) == most) = true := by simpa using hmo
        gi_wp2
        have hmm : Mods (fun i => i = P10 ∨ i = P9 ∨ i = H3) W4 ((((W4.drewN nq).setCell ⟨P10, 0, none⟩ (.int .i64 (n : Int))).setCell ⟨P9, 0, none⟩ (.int .i64 most)).setCell ⟨H3, 0, none⟩ (.bool true)) :=
          Mods.setCell (S := fun i => i = P10 ∨ i = P9 ∨ i = H3) (Mods.setCell (S := fun i => i = P10 ∨ i = P9 ∨ i = H3) (Mods.setCell (S := fun i => i = P10 ∨ i = P9 ∨ i = H3) ((Mods.refl _ W4).drewN nq) (.inl (.inl rfl)) _) (.inl (.inr (.inl rfl))) _) (.inl (.inr (.inr rfl))) _
        exact ⟨hmm.block _ (by omega) (by omega), hmm.block _ (by omega) (by omega), rfl, (((h3.drewN nq).other _ (by simp; omega)).other _ (by simp; omega)).set 0 _, hWM.trans' hmm (fun i hi e => by omega)⟩
      · have he : (((t : Int) + 1) == most) = false := by simpa using hmo
        gi_wp2
        have hmm : Mods (fun i => i = P10 ∨ i = P9) W4 (((W4.drewN nq).setCell ⟨P10, 0, none⟩ (.int .i64 (n : Int))).setCell ⟨P9, 0, none⟩ (.int .i64 ((t : Int) + 1))) :=
          Mods.setCell (S := fun i => i = P10 ∨ i = P9) (Mods.setCell (S := fun i => i = P10 ∨ i = P9) ((Mods.refl _ W4).drewN nq) (.inl (.inl rfl)) _) (.inl (.inr rfl)) _
        refine ⟨hmm.block _ (by omega) (by omega), hmm.block _ (by omega) (by omega), fun i hi => hmm.block i ?_ ?_, hmm.size, ?_, ?_⟩
        · rcases hi with rfl | rfl | hi
          · omega
          · omega
          · have := hlt i hi; omega
        · rcases hi with rfl | rfl | hi
          · omega
          · omega
          · have := hlt i hi; omega
        · have := hpos.out; rw [Nat.mul_add]; omega
        · rw [← hnew, hnewn.out]
          exact h64.step nq _ _ j1 j2 j3 j4 j5 (by omega) (by omega) hlt
set_option maxRecDepth 100000 in
set_option maxHeartbeats 4000000 in
theorem f6n (w : World) (hg : GK w) (a : Option Addr) (n0 c : Nat) (l0 : List Int) (hs0 : Sv w 5 1 a n0 c (bv l0)) (M : Int) (hm : M < 1) (hM2 : -9223372036854775808 ≤ M) (most : Int) :
    Calls Tryd.prog 6 #[.slice a n0 c, .int .i64 M, .int .i64 most] w fun e w' => e = .returned (.bool true) ∧ Mods Nix w w' := by
  have hs := sv_min hs0 300
  have hn3 := Nat.min_le_right n0 300
  have T24 : ∀ w1, Calls Tryd.prog 24 #[.slice a n0 c, .int .i64 300] w1 fun e w' => e = .returned (.slice a (min n0 300) c) ∧ w1 = w' := fun w1 => f24w w1 a n0 c hs0.le 300 300 rfl (by omega)
  obtain ⟨n, hn⟩ : ∃ n, n = min n0 300 := ⟨_, rfl⟩
  rw [← hn] at hs hn3 T24
  clear hn
  obtain ⟨l, hl⟩ : ∃ l, l = l0.take 300 := ⟨_, rfl⟩
  rw [← hl] at hs
  clear hl
  obtain ⟨H, hH⟩ : ∃ H, Eqn H w.heap.size := ⟨_, ⟨rfl⟩⟩
  obtain ⟨W0, hW0⟩ : ∃ W0, Eqn W0 ((((w.alloc (.cells #[.slice a n0 c] 22)).alloc (.cells #[.int .i64 M] 3)).alloc (.cells #[.int .i64 most] 3)).alloc (.cells #[.bool false] 4)) := ⟨_, ⟨rfl⟩⟩
  have hM0 : Mods Nix w W0 := by rw [hW0.out]; exact (((((Mods.refl Nix w).alloc _).alloc _).alloc _).alloc _)
  have T23 := f23 W0 (hg.mods hM0 (fun f => f))
  refine calls_marks (fn := Tryd.f6) Tryd.func6 rfl ?_
  simp only [Tryd.ntmps6, List.size_toArray, List.length_cons, List.length_nil, Nat.reduceAdd, Nat.reduceSub, Array.replicate_succ, Array.replicate_zero, List.push_toArray, List.append_toArray, List.nil_append, List.cons_append]
  have h0 : RB W0 H 22 [.slice a n0 c] ∧ RB W0 (H + 1) 3 [.int .i64 M] ∧ RB W0 (H + 2) 3 [.int .i64 most] ∧ RB W0 (H + 3) 4 [.bool false] ∧ W0.heap.size = H + 4 := by
    rw [hW0.out, hH.out]
    have q0 := RB.new w [.slice a n0 c] 22
    have q1 := RB.new (w.alloc (.cells #[.slice a n0 c] 22)) [.int .i64 M] 3
    have q2 := RB.new ((w.alloc (.cells #[.slice a n0 c] 22)).alloc (.cells #[.int .i64 M] 3)) [.int .i64 most] 3
    have q3 := RB.new (((w.alloc (.cells #[.slice a n0 c] 22)).alloc (.cells #[.int .i64 M] 3)).alloc (.cells #[.int .i64 most] 3)) [.bool false] 4
    simp only [World.size_alloc] at q1 q2 q3
    exact ⟨((q0.alloc _).alloc _).alloc _, (q1.alloc _).alloc _, q2.alloc _, q3, by simp⟩
  obtain ⟨r0, r1, r2, r3, hz0'⟩ := h0
  have hz0 := Eqn.mk hz0'
  clear hz0'
  have kf := fun (w : World) (lb : Array Value) => eqFn40 w 97 lb
  go_upto_region 1 with fail
  rw [← hW0.out, ← hH.out]
  go_upto_region 2 with (first | (go_at_call 23; with_reducible refine T23.mono ?_; rintro e w1 ⟨rfl, hM1⟩))
  obtain ⟨W2, hW2⟩ : ∃ W2, Eqn W2 (w1.alloc (.cells #[.bool true] 4)) := ⟨_, ⟨rfl⟩⟩
  obtain ⟨P7, hP7⟩ : ∃ P7, Eqn P7 w1.heap.size := ⟨_, ⟨rfl⟩⟩
  rw [← hW2.out, ← hP7.out]
  have hM2' : Mods Nix W0 W2 := by rw [hW2.out]; exact hM1.alloc _
  have r7 : RB W2 P7 4 [.bool true] := by rw [hW2.out, hP7.out]; exact RB.new w1 [_] 4
  have hPH : H + 3 < P7 := by have := hM1.size; rw [hz0.out, ← hP7.out] at this; omega
  have q0 := r0.mods hM2' (fun f => f)
  have q1 := r1.mods hM2' (fun f => f)
  have e3 := q0.cell (i := 0) rfl
  have e3f := q0.free 0
  have e4 := q1.cell (i := 0) rfl
  clear T23
  go_upto_region 6 with (first | (go_at_call 24; with_reducible refine (T24 _).mono ?_; rintro e w' ⟨rfl, rfl⟩) | (go_at_call 37; with_reducible refine (f37 _ _ _ _ _).mono ?_; rintro e w' ⟨rfl, rfl⟩))
  clear kf
  obtain ⟨Bb, hBb⟩ : ∃ Bb, Eqn Bb W2.heap.size := ⟨_, ⟨rfl⟩⟩
  obtain ⟨W4, hW4⟩ : ∃ W4, Eqn W4 (((W2.setCell ⟨H, 0, none⟩ (.slice a n c)).alloc (.cells #[.slice a n c] 22)).alloc (.cells #[.int .i64 M] 3)) := ⟨_, ⟨rfl⟩⟩
  rw [← hW4.out, ← hBb.out]
  go_wp2_with fail
  obtain ⟨P9, hP9⟩ : ∃ P9, Eqn P9 W4.heap.size := ⟨_, ⟨rfl⟩⟩
  obtain ⟨P10, hP10⟩ : ∃ P10, Eqn P10 (P9 + 1) := ⟨_, ⟨rfl⟩⟩
  obtain ⟨W6, hW6⟩ : ∃ W6, Eqn W6 ((W4.alloc (.cells #[.int .i64 0] 3)).alloc (.cells #[.int .i64 0] 3)) := ⟨_, ⟨rfl⟩⟩
  rw [← hW6.out, ← hP9.out, ← hP10.out]
  obtain ⟨H3, hH3⟩ : ∃ H3, Eqn H3 (H + 1 + 1 + 1) := ⟨_, ⟨rfl⟩⟩
  obtain ⟨H2, hH2⟩ : ∃ H2, Eqn H2 (H + 1 + 1) := ⟨_, ⟨rfl⟩⟩
  obtain ⟨H1, hH1⟩ : ∃ H1, Eqn H1 (H + 1) := ⟨_, ⟨rfl⟩⟩
  obtain ⟨Bn, hBn⟩ : ∃ Bn, Eqn Bn (Bb + 1) := ⟨_, ⟨rfl⟩⟩
  rw [← hH3.out, ← hH2.out, ← hH1.out, ← hBn.out]
  have i1 := hH.out
  have i2 := hz0.out
  have i3 := hH1.out
  have i4 := hH2.out
  have i5 := hH3.out
  have i6 := hP7.out
  have i7 := hBb.out
  have i8 := hBn.out
  have i9 : W2.heap.size = P7 + 1 := by rw [hW2.out, hP7.out]; simp
  have i10 : W4.heap.size = W2.heap.size + 2 := by rw [hW4.out]; simp
  have i11 := hP9.out
  have i12 := hP10.out
  have i13 : W6.heap.size = W4.heap.size + 2 := by rw [hW6.out]; simp
  have hM4 : Mods (fun i => i = H) W2 W4 := by rw [hW4.out]; exact ((Mods.setCell (S := fun i => i = H) (Mods.refl _ W2) (.inl rfl) _).alloc _).alloc _
  have hM6 : Mods Nix W4 W6 := by rw [hW6.out]; exact ((Mods.refl _ W4).alloc _).alloc _
  have hM46 : Mods (fun i => i = H) W2 W6 := hM4.trans' hM6 (fun _ _ f => f.elim)
  have hM06 : Mods Nix w W6 := (hM0.trans' hM2' (fun _ _ f => f)).trans' hM46 (fun i hi e => by omega)
  have hlt : ∀ i, In a i → i < w.heap.size := fun i ⟨ad, e, hb⟩ => by have := hs.lt ad e; omega
  have hl : l.length = n := by have := hs.len; simpa [bv] using this
  have b0' : RB W6 H 22 [.slice a n c] := by
    rw [hW6.out, hW4.out]
    exact (((((q0.set 0 (.slice a n c)).alloc _).alloc _).alloc _).alloc _)
  have bBb : RB W6 Bb 22 [.slice a n c] := by
    rw [hW6.out, hW4.out, hBb.out]
    have := (((RB.new (W2.setCell ⟨H, 0, none⟩ (.slice a n c)) [.slice a n c] 22).alloc (.cells #[.int .i64 M] 3)).alloc (.cells #[.int .i64 0] 3)).alloc (.cells #[.int .i64 0] 3)
    simpa using this
  have bBn : RB W6 Bn 3 [.int .i64 M] := by
    rw [hW6.out, hW4.out, hBn.out, hBb.out]
    have := ((RB.new ((W2.setCell ⟨H, 0, none⟩ (.slice a n c)).alloc (.cells #[.slice a n c] 22)) [.int .i64 M] 3).alloc (.cells #[.int .i64 0] 3)).alloc (.cells #[.int .i64 0] 3)
    simpa using this
  have b9' : RB W6 P9 3 [.int .i64 0] := by
    rw [hW6.out, hP9.out]
    exact (RB.new W4 [.int .i64 0] 3).alloc _
  have b10' : RB W6 P10 3 [.int .i64 0] := by
    rw [hW6.out, hP10.out, hP9.out]
    have := RB.new (W4.alloc (.cells #[.int .i64 0] 3)) [.int .i64 0] 3
    simpa using this
  have hC6 : ChS w H H1 H2 H3 P7 P9 P10 a n c l M most 0 0 W6 := by
    refine ⟨b0', ?_, ?_, ⟨false, ?_⟩, r7.mods hM46 (by omega), b9', b10', hs.mods hM06 (fun _ _ f => f), hM06⟩
    · rw [hH1.out]; exact (r1.mods hM2' (fun f => f)).mods hM46 (by omega)
    · rw [hH2.out]; exact (r2.mods hM2' (fun f => f)).mods hM46 (by omega)
    · rw [hH3.out]; exact (r3.mods hM2' (fun f => f)).mods hM46 (by omega)
  have hsv6 := hC6.sv
  have hnc := hsv6.le
  have hit := f97z W6 Bn Bb M hm bBn
  have hw0 := hM0.size
  clear b0' b9' b10' e3 e3f e4 q0 q1 r0 r1 r2 r3 r7 hs0 hg T24 hM4 hM6 hM46 hM2' hM1
  have jj : w.heap.size ≤ H ∧ H < H1 ∧ H1 < H2 ∧ H2 < H3 ∧ H3 < P7 ∧ P7 < Bb ∧ Bb < Bn ∧ Bn < P9 ∧ P9 < P10 ∧ P10 < W6.heap.size := by
    refine ⟨?_, ?_, ?_, ?_, ?_, ?_, ?_, ?_, ?_, ?_⟩ <;> omega
  obtain ⟨j1, j2, j3, j4, j5, j6, j7, j8, j9, j10⟩ := jj
  clear i1 i2 i3 i4 i5 i6 i7 i8 i9 i10 i11 i12 i13
  have hl := Eqn.mk hl
  have hTT : ∀ {i}, ((fun _ : Nat => False) i ∨ i = W6.heap.size ∨ i = W6.heap.size + 1) → W6.heap.size ≤ i := fun h => h.elim False.elim (by omega)
  refine range_law (gf := 97) (N := 0) (T := fun _ => False) (R := fun _ => False) rfl ?eg hit ?hT ?hR ?hargs
    (fun _ A => ChS w H H1 H2 H3 P7 P9 P10 a n c l M most 0 0 A)
    (fun c A => c = .ret ∧ RB A H3 4 [.bool true] ∧ Mods Nix w A) ?hI ?hIx ?h0 ?hround ?hdone ?hstop
  case eg => exact run_enter Tryd.func97 (by kernel_rfl) rfl
  case hT => exact fun _ h => h.elim
  case hR => exact fun _ h => h.elim
  case hargs =>
    rintro t A args h
    exact h.elim
  case hI =>
    rintro t A B h2 hm
    refine h2.go hm (fun i hi => ?_)
    have hi := hTT hi
    have h9 : ¬ In a i := fun h => by have := hlt i h; omega
    refine ⟨?_, ?_, ?_, ?_, ?_, ?_, ?_, ?_, h9⟩ <;> omega
  case hIx =>
    rintro c A B ⟨rfl, h1, h2⟩ hm
    exact ⟨rfl, h1.mods hm (fun s => by have := hTT s; omega), h2.trans' hm (fun i hi e => by have := hTT e; omega)⟩
  case h0 => exact hC6
  case hround =>
    rintro lp t A args ht
    omega
  case hstop =>
    rintro c W ⟨rfl, h1, h2⟩ hK
    refine wp_ret ?_
    have hmp := (Mods.refl (fun i => i = W6.heap.size) W).putObj (g := W6.heap.size) (.inl rfl) (.deferred none)
    refine marks_ret (R := fun e w' => e = .returned (.bool true) ∧ Mods Nix w w') (v := .bool true) hK (res_cell4 rfl _ _ H3 true rfl ((h1.mods hmp (by omega)).cell (i := 0) rfl)) ⟨rfl, ?_⟩
    exact h2.trans' hmp (fun i hi e => by omega)
  case hdone =>
    rintro W h2 hK
    have b0 : W.cell? ⟨H, 0, none⟩ = some (.slice a n c) := h2.b0.cell rfl
    have b1 : W.cell? ⟨H1, 0, none⟩ = some (.int .i64 M) := h2.b1.cell rfl
    have b7 : W.cell? ⟨P7, 0, none⟩ = some (.bool true) := h2.b7.cell rfl
    have b9 : W.cell? ⟨P9, 0, none⟩ = some (.int .i64 0) := h2.b9.cell rfl
    have b10 : W.cell? ⟨P10, 0, none⟩ = some (.int .i64 0) := h2.b10.cell rfl
    obtain ⟨v, h3⟩ := h2.b3
    have b3 : W.cell? ⟨H3, 0, none⟩ = some (.bool v) := h3.cell rfl
    have f3 := h3.free 0
    have hm1 : ¬ (1 : Int) ≤ M := by omega
    have hWM := h2.mods
    clear h2
    simp only [Exit.inBlock, Exit.then]
    go_at_K
    go_wp2_with fail
    have hm6 : Mods (fun i => i = H3) W (W.setCell ⟨H3, 0, none⟩ (.bool true)) := (Mods.refl (fun i => i = H3) W).setCell (.inl rfl) _
    have hK' : (W.setCell ⟨H3, 0, none⟩ (.bool true)).heap[W6.heap.size]? = some (.deferred (some [])) := hm6.heap hK (by omega)
    have hmp := (Mods.refl (fun i => i = W6.heap.size) (W.setCell ⟨H3, 0, none⟩ (.bool true))).putObj (g := W6.heap.size) (.inl rfl) (.deferred none)
    refine marks_ret (R := fun e w' => e = .returned (.bool true) ∧ Mods Nix w w') (v := .bool true) hK' (res_cell4 rfl _ _ H3 true rfl (((h3.set 0 (.bool true)).mods hmp (by omega)).cell (i := 0) rfl)) ⟨rfl, ?_⟩
    exact (hWM.trans' hm6 (fun i hi e => by omega)).trans' hmp (fun i hi e => by omega)
/-- HashChunks. -/
theorem f6 (w : World) (hg : GK w) (a : Option Addr) (n c : Nat) (l : List Int) (hs : Sv w 5 1 a n c (bv l)) (_hB : Byt l) (m : Int) (hm : -9223372036854775808 ≤ m ∧ m ≤ 9223372036854775807) (most : Int) :
    Calls Tryd.prog 6 #[.slice a n c, .int .i64 m, .int .i64 most] w fun e w' => e = .returned (.bool true) ∧ Mods Nix w w' := by
  rcases Int.lt_or_le m 1 with h | h
  · exact f6n w hg a n c l hs m h hm.1 most
  · obtain ⟨M, rfl⟩ := Int.eq_ofNat_of_zero_le (show 0 ≤ m by omega)
    exact f6p w hg a n c l hs M (by omega) hm.2 most
end Go.Proofs.YtladijfaeieidaaDoor
