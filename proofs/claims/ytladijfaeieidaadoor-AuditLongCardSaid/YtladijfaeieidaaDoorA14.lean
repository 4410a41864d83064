/- The walk of AuditLong: it answers true. Condition: the table of constants stands. -/
import Derived.Test.YtladijfaeieidaaDoorA10
import Derived.Test.YtladijfaeieidaaDoorA13
import Derived.Test.YtladijfaeieidaaDoorM1
import Derived.Deep.Cut
namespace Go.Proofs.YtladijfaeieidaaDoor
open Go.RowKit Go.Shelf
attribute [local go_sem] Oper.semAt_some

set_option maxRecDepth 100000 in
set_option maxHeartbeats 4000000 in
theorem f13 (w : World) (hg : GK w) (n cut q0 t f r s : Int) (ht9 : t ≤ 9223372036854775807) :
    Calls Tryd.prog 13 #[.int .i64 n, .int .i64 cut, .agg #[.int .i64 q0, .int .i64 t, .int .i64 f, .int .i64 r, .int .i64 s]] w fun e w' => e = .returned (.bool true) ∧ Mods Nix w w' := by
  obtain ⟨P5, hP5⟩ : ∃ P5, Eqn P5 w.heap.size := ⟨_, ⟨rfl⟩⟩
  obtain ⟨P6, hP6⟩ : ∃ P6, Eqn P6 (P5 + 1) := ⟨_, ⟨rfl⟩⟩
  obtain ⟨W1, hW1⟩ : ∃ W1, Eqn W1 ((w.alloc (.cells #[.int .i64 q0, .int .i64 t, .int .i64 f, .int .i64 r, .int .i64 s] 52)).alloc (.cells #[.bool false] 4)) := ⟨_, ⟨rfl⟩⟩
  have hM1 : Mods Nix w W1 := by rw [hW1.out]; exact ((Mods.refl Nix w).alloc _).alloc _
  have r5 : RB W1 P5 52 (ents q0 t f r s) := by rw [hW1.out, hP5.out]; exact (RB.new w (ents q0 t f r s) 52).alloc _
  have r6 : RB W1 P6 4 [.bool false] := by
    rw [hW1.out, hP6.out, hP5.out]
    have := RB.new (w.alloc (.cells #[.int .i64 q0, .int .i64 t, .int .i64 f, .int .i64 r, .int .i64 s] 52)) [.bool false] 4
    simpa using this
  have T42 := f42 W1 (hg.mods hM1 (fun f => f))
  refine calls_marks (fn := Tryd.f13) Tryd.func13 rfl ?_
  simp only [Tryd.ntmps13, List.size_toArray, List.length_cons, List.length_nil, Nat.reduceAdd, Nat.reduceSub, Array.replicate_succ, Array.replicate_zero, List.push_toArray, List.append_toArray, List.nil_append, List.cons_append]
  go_upto_region 1 with fail
  rw [← hW1.out, ← hP5.out, ← hP6.out]
  go_upto_region 2 with (first | (go_at_call 42; with_reducible refine T42.mono ?_; rintro e w1 ⟨rfl, hM2⟩))
  have r5' := r5.mods hM2 (fun f => f)
  have r6' := r6.mods hM2 (fun f => f)
  have e0 : w1.cell? ⟨P5, 0, none⟩ = some (.int .i64 q0) := r5'.cell rfl
  have E1 : EC w1 P5 q0 t f r s := ec r5'
  have d1 := E1.c1
  have d2 := E1.c2
  have d3 := E1.c3
  have d4 := E1.c4
  have g0 := r6'.free 0
  have g1 : w1.cell? ⟨P6, 0, none⟩ = some (.bool false) := r6'.cell rfl
  clear T42 E1
  by_cases h1 : n < 0
  · go_wp2_with fail
    exact marks_plain (res_cell4 rfl _ _ P6 true rfl ((r6'.set 0 (.bool true)).cell (i := 0) rfl)) ⟨rfl, (hM1.trans' hM2 (fun _ _ f => f)).setCell (.inr (by have := hP5.out; have := hP6.out; show w.heap.size ≤ P6; omega)) _⟩
  by_cases h2 : 150 < n
  · go_wp2_with fail
    exact marks_plain (res_cell4 rfl _ _ P6 true rfl ((r6'.set 0 (.bool true)).cell (i := 0) rfl)) ⟨rfl, (hM1.trans' hM2 (fun _ _ f => f)).setCell (.inr (by have := hP5.out; have := hP6.out; show w.heap.size ≤ P6; omega)) _⟩
  by_cases h3 : cut < 0
  · go_wp2_with fail
    exact marks_plain (res_cell4 rfl _ _ P6 true rfl ((r6'.set 0 (.bool true)).cell (i := 0) rfl)) ⟨rfl, (hM1.trans' hM2 (fun _ _ f => f)).setCell (.inr (by have := hP5.out; have := hP6.out; show w.heap.size ≤ P6; omega)) _⟩
  by_cases h4 : n < cut
  · go_wp2_with fail
    exact marks_plain (res_cell4 rfl _ _ P6 true rfl ((r6'.set 0 (.bool true)).cell (i := 0) rfl)) ⟨rfl, (hM1.trans' hM2 (fun _ _ f => f)).setCell (.inr (by have := hP5.out; have := hP6.out; show w.heap.size ≤ P6; omega)) _⟩
  by_cases h5 : f < 0
  · go_wp2_with fail
    exact marks_plain (res_cell4 rfl _ _ P6 true rfl ((r6'.set 0 (.bool true)).cell (i := 0) rfl)) ⟨rfl, (hM1.trans' hM2 (fun _ _ f => f)).setCell (.inr (by have := hP5.out; have := hP6.out; show w.heap.size ≤ P6; omega)) _⟩
  by_cases h6 : 65000 < f
  · go_wp2_with fail
    exact marks_plain (res_cell4 rfl _ _ P6 true rfl ((r6'.set 0 (.bool true)).cell (i := 0) rfl)) ⟨rfl, (hM1.trans' hM2 (fun _ _ f => f)).setCell (.inr (by have := hP5.out; have := hP6.out; show w.heap.size ≤ P6; omega)) _⟩
  by_cases h7 : s < 0
  · go_wp2_with fail
    exact marks_plain (res_cell4 rfl _ _ P6 true rfl ((r6'.set 0 (.bool true)).cell (i := 0) rfl)) ⟨rfl, (hM1.trans' hM2 (fun _ _ f => f)).setCell (.inr (by have := hP5.out; have := hP6.out; show w.heap.size ≤ P6; omega)) _⟩
  by_cases h8 : 65535 < s
  · go_wp2_with fail
    exact marks_plain (res_cell4 rfl _ _ P6 true rfl ((r6'.set 0 (.bool true)).cell (i := 0) rfl)) ⟨rfl, (hM1.trans' hM2 (fun _ _ f => f)).setCell (.inr (by have := hP5.out; have := hP6.out; show w.heap.size ≤ P6; omega)) _⟩
  by_cases h9 : r < 0
  · go_wp2_with fail
    exact marks_plain (res_cell4 rfl _ _ P6 true rfl ((r6'.set 0 (.bool true)).cell (i := 0) rfl)) ⟨rfl, (hM1.trans' hM2 (fun _ _ f => f)).setCell (.inr (by have := hP5.out; have := hP6.out; show w.heap.size ≤ P6; omega)) _⟩
  by_cases h10 : 2147483648 < r
  · go_wp2_with fail
    exact marks_plain (res_cell4 rfl _ _ P6 true rfl ((r6'.set 0 (.bool true)).cell (i := 0) rfl)) ⟨rfl, (hM1.trans' hM2 (fun _ _ f => f)).setCell (.inr (by have := hP5.out; have := hP6.out; show w.heap.size ≤ P6; omega)) _⟩
  by_cases h11 : t < 0
  · go_wp2_with fail
    exact marks_plain (res_cell4 rfl _ _ P6 true rfl ((r6'.set 0 (.bool true)).cell (i := 0) rfl)) ⟨rfl, (hM1.trans' hM2 (fun _ _ f => f)).setCell (.inr (by have := hP5.out; have := hP6.out; show w.heap.size ≤ P6; omega)) _⟩
  have hE : LongE t f r s := ⟨h11, ht9, h5, h6, h7, h8, h9, h10⟩
  go_wp2_with fail
  obtain ⟨N, rfl⟩ := Int.eq_ofNat_of_zero_le (show 0 ≤ n by omega)
  obtain ⟨C, rfl⟩ := Int.eq_ofNat_of_zero_le (show 0 ≤ cut by omega)
  have hN : N ≤ 150 := by omega
  have hC : C ≤ N := by omega
  have hM02 := hM1.trans' hM2 (fun _ _ f => f)
  have hf1 : f ≤ 65000 := by omega
  have hf0 : 0 ≤ f := by omega
  clear h1 h2 h3 h4 h5 h6 h7 h8 h9 h10 h11 d1 d2 d3 d4 e0 g0 g1
  go_loopw [8, 9] (fun o i wr => ∃ (k nn c' : Nat) (a' : Option Addr), k ≤ N ∧ i = .int .i64 k ∧ o = .slice a' nn c' ∧ Eqn nn (52 * k) ∧ Sv wr 5 1 a' nn c' (bv (longL t f r s k)) ∧ Mods Nix w1 wr) (fun _ i _ => N - (intOf i).toNat)
  case atStart => exact ⟨0, 0, 0, none, Nat.zero_le _, rfl, rfl, ⟨rfl⟩, (own_nil _).toSv, Mods.refl _ _⟩
  case round =>
    obtain ⟨k, nn, c', a', hk, rfl, rfl, hnn, hS, hM⟩ := hrel
    by_cases hkN : k < N
    · have r5r := r5'.mods hM (fun f => f)
      have e0 : wr.cell? ⟨P5, 0, none⟩ = some (.int .i64 q0) := r5r.cell rfl
      have E1 : EC wr P5 q0 t f r s := ec r5r
      have d1 := E1.c1
      have d2 := E1.c2
      have d3 := E1.c3
      have d4 := E1.c4
      have i2 : (k : Int) < N := by omega
      have hN1 : (N : Int) ≤ 150 := by omega
      go_upto_region 9 with fail
      obtain ⟨PX, hPX⟩ : ∃ PX, Eqn PX wr.heap.size := ⟨_, ⟨rfl⟩⟩
      obtain ⟨W3, hW3⟩ : ∃ W3, Eqn W3 (wr.alloc (.cells #[.int .i64 q0, .int .i64 t, .int .i64 f, .int .i64 r, .int .i64 s] 52)) := ⟨_, ⟨rfl⟩⟩
      rw [← hW3.out, ← hPX.out]
      have hM3 : Mods Nix wr W3 := by rw [hW3.out]; exact alloc_mods _ _
      have rX : RB W3 PX 52 (ents q0 t f r s) := by rw [hW3.out, hPX.out]; exact RB.new wr _ 52
      have r53 := r5r.mods hM3 (fun f => f)
      have c2 : W3.cell? ⟨P5, 2, none⟩ = some (.int .i64 f) := r53.cell rfl
      have x0 : W3.cell? ⟨PX, 0, none⟩ = some (.int .i64 q0) := rX.cell rfl
      have x1 : W3.cell? ⟨PX, 1, none⟩ = some (.int .i64 t) := rX.cell rfl
      have x2 : W3.cell? ⟨PX, 2, none⟩ = some (.int .i64 f) := rX.cell rfl
      have x3 : W3.cell? ⟨PX, 3, none⟩ = some (.int .i64 r) := rX.cell rfl
      have x4 : W3.cell? ⟨PX, 4, none⟩ = some (.int .i64 s) := rX.cell rfl
      have y2 := rX.free 2
      have hM4 : Mods Nix wr (W3.setCell ⟨PX, 2, none⟩ (.int .i64 (f + k))) := hM3.setCell (.inr (by rw [hPX.out]; exact Nat.le_refl _)) _
      have hL := longL_lg hE k (by omega)
      have T43 := f43y (W3.setCell ⟨PX, 2, none⟩ (.int .i64 (f + k))) (hg.mods ((hM02.trans' hM (fun _ _ f => f)).trans' hM4 (fun _ _ f => f)) (fun f => f)) a' nn c' _ (hS.mods hM4 (fun _ _ f => f)) hL.byt (by rw [hnn.out]; omega) q0 t (f + k) r s (hE.ok (by omega) (by rw [hnn.out]; omega))
      have hq : Eqn (longL t f r s k ++ lineOf (headOf (longL t f r s k)) ((nn / 52 : Nat) : Int) t (f + k) r s) (longL t f r s (k + 1)) := ⟨by rw [longL, addL, hL.len, hnn.out]⟩
      rw [hq.out] at T43
      clear d1 d2 d3 d4 e0 E1 hL
      go_wp2_with (first | (go_at_call 43; with_reducible refine T43.mono ?_; rintro e w9 ⟨a9, c9, rfl, hS9⟩))
      go_roundw
      case measure => simp [intOf]; omega
      case rel =>
        exact ⟨k + 1, nn + 52, c9, a9, hkN, by go_num, rfl, ⟨by rw [hnn.out]; omega⟩, hS9.own.toSv, (hM.trans' hM4 (fun _ _ f => f)).trans' hS9.mods (fun _ _ f => f)⟩
    · obtain rfl : k = N := by omega
      have hL := longL_lg hE k hN
      have hgr := hg.mods (hM02.trans' hM (fun _ _ f => f)) (fun f => f)
      obtain ⟨l, hl⟩ : ∃ l, Eqn l (longL t f r s k) := ⟨_, ⟨rfl⟩⟩
      rw [← hl.out] at hL hS
      have hB := hL.byt
      have hnn5 : nn ≤ 100000 := by rw [hnn.out]; omega
      have T45 : Calls Tryd.prog 45 #[.slice a' nn c'] wr fun e w' => e = .returned (.tuple #[.int .i64 k, .bool true]) ∧ Mods Nix wr w' := by
        refine (f45 wr hgr a' nn c' l hnn5 hB hS).mono ?_
        rintro e w' ⟨m, rfl, hc, hm⟩
        obtain rfl := hc.uniq hL.cnt
        have e9 : decide (m * 52 = nn) = true := by rw [decide_eq_true_iff, hnn.out]; omega
        exact ⟨by rw [e9], hm⟩
      have hCl : 52 * C ≤ nn := by rw [hnn.out]; omega
      obtain ⟨ac, kc, vc, -⟩ := sub_front (a := a') (n := nn) (c := c') (52 * C) (52 * (C : Int)) (by omega) hCl hS.le
      obtain ⟨nc, hnc⟩ : ∃ nc, Eqn nc (52 * C) := ⟨_, ⟨rfl⟩⟩
      rw [← hnc.out] at kc vc
      have T45c : Behind wr fun w5 => Calls Tryd.prog 45 #[.slice ac nc c'] w5 fun e w' => e = .returned (.tuple #[.int .i64 C, .bool true]) ∧ Mods Nix w5 w' := ⟨fun w5 hm5 => by
        refine (f45 w5 (hgr.mods hm5 (fun f => f)) ac nc c' _ (by rw [hnc.out]; omega) (hB.take _) (vc w5 l (hS.mods hm5 (fun _ _ f => f)))).mono ?_
        rintro e w' ⟨m, rfl, hc, hm⟩
        have hF := hL.front C hC
        rw [← hnc.out] at hF
        obtain rfl := hc.uniq hF.cnt
        have e9 : decide (m * 52 = nc) = true := by rw [decide_eq_true_iff, hnc.out]; omega
        exact ⟨by rw [e9], hm⟩⟩
      have hC1 : (C : Int) ≤ k := by omega
      have hN1 : (k : Int) ≤ 150 := by omega
      have kf := fun (w : World) (lb : Array Value) => eqFn61 w 105 lb
      clear vc
      go_wp2_with (first | (go_at_call 45; with_reducible refine T45.mono ?_; rintro e w5 ⟨rfl, hM5⟩; have T6 := T45c.out _ hM5) | (go_at_call 45; with_reducible refine T6.mono ?_; rintro e w6 ⟨rfl, hM6⟩) | (go_at_call 50; refine (f50 _ _ _ _).mono ?_; rintro e w' ⟨rfl, rfl⟩))
      have hw6 : Mods Nix w1 w6 := (hM.trans' hM5 (fun _ _ f => f)).trans' hM6 (fun _ _ f => f)
      have hS6 := (hS.mods hM5 (fun _ _ f => f)).mods hM6 (fun _ _ f => f)
      obtain ⟨Bb, hBb⟩ : ∃ Bb, Eqn Bb w6.heap.size := ⟨_, ⟨rfl⟩⟩
      obtain ⟨PY, hPY⟩ : ∃ PY, Eqn PY (Bb + 1) := ⟨_, ⟨rfl⟩⟩
      obtain ⟨W7, hW7⟩ : ∃ W7, Eqn W7 ((w6.alloc (.cells #[.slice a' nn c'] 22)).alloc (.cells #[.int .i64 0] 3)) := ⟨_, ⟨rfl⟩⟩
      rw [← hW7.out, ← hBb.out, ← hPY.out]
      have hM67 : Mods Nix w6 W7 := by rw [hW7.out]; exact ((Mods.refl Nix w6).alloc _).alloc _
      have hM17 : Mods Nix w1 W7 := hw6.trans' hM67 (fun _ _ f => f)
      have bBb : RB W7 Bb 22 [.slice a' nn c'] := by rw [hW7.out, hBb.out]; exact (RB.new w6 _ 22).alloc _
      have bY : RB W7 PY 3 [.int .i64 0] := by
        rw [hW7.out, hPY.out, hBb.out]
        have := RB.new (w6.alloc (.cells #[.slice a' nn c'] 22)) [.int .i64 0] 3
        simpa using this
      have hlt : ∀ i, In a' i → i < w6.heap.size := fun i ⟨ad, e, hb⟩ => by have := hS6.lt ad e; omega
      have hlen : l.length = nn := by have := hS.len; simpa [bv] using this
      have hit := f105 W7 (hg.mods (hM02.trans' hM17 (fun _ _ f => f)) (fun f => f)) Bb a' nn c' l hlen hnn5 hB (hS6.mods hM67 (fun _ _ f => f)) bBb k hL.cnt
      have j0 : w6.heap.size ≤ Bb ∧ Bb < PY ∧ PY < W7.heap.size ∧ P5 < w1.heap.size ∧ P6 < w1.heap.size ∧ w1.heap.size ≤ w6.heap.size ∧ w.heap.size ≤ P6 ∧ w.heap.size ≤ w1.heap.size := by
        have := hBb.out
        have := hPY.out
        have := bY.lt
        have := r5'.lt
        have := r6'.lt
        have := hw6.size
        have := hP5.out
        have := hP6.out
        have := hM02.size
        omega
      obtain ⟨j1, j2, j3, j4, j5, j6, j7, j8⟩ := j0
      have hlen := Eqn.mk hlen
      have hTT : ∀ {i}, ((fun _ : Nat => False) i ∨ i = W7.heap.size ∨ i = W7.heap.size + 1) → W7.heap.size ≤ i := fun h => h.elim False.elim (by omega)
      have hent := fun (q : Nat) (hq : q < k) => longL_ent hE hN hq
      rw [← hl.out] at hent
      clear kf kc T45 T45c T6 r5 r6
      refine range_law (gf := 105) (N := k) (T := fun _ => False) (R := fun i => i = Bb ∨ In a' i) rfl ?eg hit ?hT ?hR ?hargs
        (fun q A => RB A PY 3 [.int .i64 q] ∧ Mods Nix w1 A)
        (fun c A => False) ?hI ?hIx ?h0 ?hround ?hdone ?hstop
      case eg => exact run_enter Tryd.func105 (by kernel_rfl) rfl
      case hT => rintro i h; exact h.elim
      case hR =>
        rintro i (rfl | hi)
        · omega
        · have := hlt i hi; omega
      case hargs =>
        rintro t A args ⟨rfl⟩
        rfl
      case hI =>
        rintro q A B ⟨h3, h4⟩ hm
        exact ⟨h3.mods hm (fun s => by have := hTT s; omega), h4.trans' hm (fun i hi e => by have := hTT e; omega)⟩
      case hIx =>
        rintro c A B h hm
        exact h
      case h0 => exact ⟨bY, hM17⟩
      case hstop =>
        rintro c W h hK
        exact h.elim
      case hdone =>
        rintro W ⟨h3, h4⟩ hK
        have cY : W.cell? ⟨PY, 0, none⟩ = some (.int .i64 k) := h3.cell rfl
        have r6W := r6'.mods h4 (fun f => f)
        have c6 : W.cell? ⟨P6, 0, none⟩ = some (.bool false) := r6W.cell rfl
        have f6 := r6W.free 0
        simp only [Exit.inBlock, Exit.then]
        go_at_K
        go_wp2_with fail
        have hm6 : Mods (fun i => i = P6) W (W.setCell ⟨P6, 0, none⟩ (.bool true)) := (Mods.refl (fun i => i = P6) W).setCell (.inl rfl) _
        have hK' : (W.setCell ⟨P6, 0, none⟩ (.bool true)).heap[W7.heap.size]? = some (.deferred (some [])) := hm6.heap hK (by omega)
        have hmp := (Mods.refl (fun i => i = W7.heap.size) (W.setCell ⟨P6, 0, none⟩ (.bool true))).putObj (g := W7.heap.size) (.inl rfl) (.deferred none)
        refine marks_ret (R := fun e w' => e = .returned (.bool true) ∧ Mods Nix w w') (v := .bool true) hK' (res_cell4 rfl _ _ P6 true rfl (((r6W.set 0 (.bool true)).mods hmp (by omega)).cell (i := 0) rfl)) ⟨rfl, ?_⟩
        exact ((hM02.trans' h4 (fun _ _ f => f)).trans' hm6 (fun i hi e => by omega)).trans' hmp (fun i hi e => by omega)
      case hround =>
        rintro lp q A args hq ⟨h3, h4⟩ ⟨rfl⟩ hlt2 hlp hdf
        rw [hent q hq]
        obtain ⟨E, hE⟩ : ∃ E, Eqn E A.heap.size := ⟨_, ⟨rfl⟩⟩
        obtain ⟨A2, hA2⟩ : ∃ A2, Eqn A2 (A.alloc (.cells #[.int .i64 q, .int .i64 t, .int .i64 (f + q), .int .i64 r, .int .i64 s] 52)) := ⟨_, ⟨rfl⟩⟩
        have hAM : Mods Nix A A2 := by rw [hA2.out]; exact alloc_mods _ _
        have rE : RB A2 E 52 (ents q t (f + q) r s) := by rw [hA2.out, hE.out]; exact RB.new A _ 52
        have hEA : W7.heap.size + 1 < E := by have := hE.out; omega
        have hEB : E < A2.heap.size := rE.lt
        gi_wp2
        rw [← hA2.out, ← hE.out]
        refine ⟨(hAM.block _ (by omega) (fun f => f)).trans hdf, (hAM.block _ (by omega) (fun f => f)).trans (Array.getElem?_eq_getElem _), ⟨hAM.block _ (by omega) (fun f => f), fun i hi => hAM.block _ (by have := hlt i hi; omega) (fun f => f)⟩, fun W2 hm => ?_⟩
        have rY := (h3.mods hAM (fun f => f)).mods hm (by omega)
        have rE2 := rE.mods hm (by omega)
        have hM12 : Mods Nix w1 W2 := (h4.trans' hAM (fun _ _ f => f)).trans' hm (fun i hi e => by omega)
        have r52 := r5'.mods hM12 (fun f => f)
        have cY : W2.cell? ⟨PY, 0, none⟩ = some (.int .i64 q) := rY.cell rfl
        have fY := rY.free 0
        have E2 := ec rE2
        have a0 : W2.cell? ⟨E, 0, none⟩ = some (.int .i64 q) := rE2.cell rfl
        have a1 := E2.c1
        have a2 := E2.c2
        have a3 := E2.c3
        have a4 := E2.c4
        have E5 := ec r52
        have b1 := E5.c1
        have b2 := E5.c2
        have b3 := E5.c3
        have b4 := E5.c4
        have hz2 := hm.size
        have hq1 : (q : Int) ≤ 150 := by omega
        clear E2 E5 hent
        gi_wp2
        have hm5 : Mods (fun i => i = PY) W2 (W2.setCell ⟨PY, 0, none⟩ (.int .i64 ((q : Int) + 1))) := (Mods.refl (fun i => i = PY) W2).setCell (.inl rfl) _
        refine ⟨hm5.block _ (by omega) (by omega), hm5.block _ (by omega) (by omega), fun i hi => hm5.block i ?_ ?_, hm5.size, rY.set 0 _, hM12.trans' hm5 (fun i hi e => by omega)⟩
        · rcases hi with rfl | hi
          · omega
          · have := hlt i hi; omega
        · rcases hi with rfl | hi
          · omega
          · have := hlt i hi; omega
end Go.Proofs.YtladijfaeieidaaDoor
