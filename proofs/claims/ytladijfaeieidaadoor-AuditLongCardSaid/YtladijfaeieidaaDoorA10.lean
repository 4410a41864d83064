/- The walk of chapter 16's begun: it answers true. Condition: the table of constants stands. -/
import Derived.Test.YtladijfaeieidaaDoorA8
import Derived.Deep.Cut
namespace Go.Proofs.YtladijfaeieidaaDoor
open Go.RowKit Go.Shelf
attribute [local go_sem] Oper.semAt_some

/-- A function is not nil. -/
theorem eqFn61 (w : World) (f : Nat) (lb : Array Value) : (binOp BinOp.eql 61 (.func (.func f) #[] lb) .nilFunc).run Tryd.prog w = .ok (.bool false) w := by
  kernel_rfl
set_option maxRecDepth 100000 in
set_option maxHeartbeats 4000000 in
theorem f42 (w : World) (hg : GK w) : Calls Tryd.prog 42 #[] w fun e w' => e = .returned (.bool true) ∧ Mods Nix w w' := by
  have ok0 : OkE 0 5 7 160 1 := ⟨rfl, by omega, by omega, by omega, by omega, by omega, by omega, by omega⟩
  have hL : Lg (lineOf (headOf []) ((0 / 52 : Nat) : Int) 5 7 160 1) 1 := Lg.snoc .nil ok0 (by omega)
  have T43 := f43y w hg none 0 0 [] (own_nil w).toSv Byt.nil (by omega) 0 5 7 160 1 ok0
  rw [List.nil_append] at T43
  obtain ⟨l, hl⟩ : ∃ l, Eqn l (lineOf (headOf []) ((0 / 52 : Nat) : Int) 5 7 160 1) := ⟨_, ⟨rfl⟩⟩
  have hfn : Eqn (entOf l) (.agg #[.int .i64 (be (l.take 4)), .int .i64 (timeOf l), .int .i64 7, .int .i64 160, .int .i64 1]) := ⟨by
    have h1 := ok0.fn (headOf []) ((0 / 52 : Nat) : Int)
    have h2 := ok0.rv (headOf []) ((0 / 52 : Nat) : Int)
    have h3 := ok0.slot (headOf []) ((0 / 52 : Nat) : Int)
    rw [← hl.out] at h1 h2 h3
    rw [entOf, h1, h2, h3]
    rfl⟩
  rw [← hl.out] at hL T43
  have kf := fun (w : World) (lb : Array Value) => eqFn61 w 105 lb
  refine calls_marks (fn := Tryd.f42) Tryd.func42 rfl ?_
  simp only [Tryd.ntmps42, List.size_toArray, List.length_nil, Nat.reduceSub, Array.replicate_succ, Array.replicate_zero, List.push_toArray, List.append_toArray, List.nil_append, List.cons_append]
  go_upto_region 2 with (first | (go_at_call 43; with_reducible refine T43.mono ?_; rintro e w1 ⟨a1, c1, rfl, hS1⟩))
  have hS1s : Sv w1 5 1 a1 52 c1 (bv l) := hS1.own.toSv
  have hll : l.length = 52 := hL.len
  have T45 : Calls Tryd.prog 45 #[.slice a1 52 c1] w1 fun e w' => e = .returned (.tuple #[.int .i64 1, .bool true]) ∧ Mods Nix w1 w' := by
    refine (f45 w1 (hg.mods hS1.mods (fun f => f)) a1 52 c1 l (by omega) hL.byt hS1s).mono ?_
    rintro e w' ⟨m, rfl, hC, hM⟩
    obtain rfl := hC.uniq hL.cnt
    exact ⟨rfl, hM⟩
  have hM1 := hS1.mods
  clear T43 ok0
  go_upto_region 6 with (first | (go_at_call 45; with_reducible refine T45.mono ?_; rintro e w2 ⟨rfl, hM2⟩) | (go_at_call 50; refine (f50 _ _ _ _).mono ?_; rintro e w' ⟨rfl, rfl⟩))
  clear kf T45
  obtain ⟨Bb, hBb⟩ : ∃ Bb, Eqn Bb w2.heap.size := ⟨_, ⟨rfl⟩⟩
  obtain ⟨W3, hW3⟩ : ∃ W3, Eqn W3 (w2.alloc (.cells #[.slice a1 52 c1] 22)) := ⟨_, ⟨rfl⟩⟩
  rw [← hW3.out, ← hBb.out]
  go_wp2_with fail
  obtain ⟨P6, hP6⟩ : ∃ P6, Eqn P6 W3.heap.size := ⟨_, ⟨rfl⟩⟩
  obtain ⟨W4, hW4⟩ : ∃ W4, Eqn W4 (W3.alloc (.cells #[.int .i64 0] 3)) := ⟨_, ⟨rfl⟩⟩
  rw [← hW4.out, ← hP6.out]
  have hM02 := hM1.trans' hM2 (fun _ _ f => f)
  have hM3 : Mods Nix w W3 := by rw [hW3.out]; exact hM02.alloc _
  have hM4 : Mods Nix w W4 := by rw [hW4.out]; exact hM3.alloc _
  have hM14 : Mods Nix w1 W4 := by rw [hW4.out, hW3.out]; exact (hM2.alloc _).alloc _
  have bBb : RB W4 Bb 22 [.slice a1 52 c1] := by rw [hW4.out, hW3.out, hBb.out]; exact (RB.new w2 _ 22).alloc _
  have b6 : RB W4 P6 3 [.int .i64 0] := by rw [hW4.out, hP6.out]; exact RB.new W3 _ 3
  have hs4 := hS1s.mods hM14 (fun _ _ f => f)
  have hlt : ∀ i, In a1 i → i < w1.heap.size := fun i ⟨ad, e, hb⟩ => by have := hS1s.lt ad e; omega
  have hit := f105 W4 (hg.mods hM4 (fun f => f)) Bb a1 52 c1 l hll (by omega) hL.byt hs4 bBb 1 hL.cnt
  have j0 : w1.heap.size ≤ Bb ∧ Bb < P6 ∧ P6 < W4.heap.size := by
    have i3 : W3.heap.size = w2.heap.size + 1 := by rw [hW3.out]; simp
    have i4 : W4.heap.size = W3.heap.size + 1 := by rw [hW4.out]; simp
    have := hP6.out
    have := hBb.out
    have := hM2.size
    omega
  obtain ⟨j1, j2, j3⟩ := j0
  have hz1 := hM1.size
  have hTT : ∀ {i}, ((fun _ : Nat => False) i ∨ i = W4.heap.size ∨ i = W4.heap.size + 1) → W4.heap.size ≤ i := fun h => h.elim False.elim (by omega)
  have hll := Eqn.mk hll
  refine range_law (gf := 105) (N := 1) (T := fun _ => False) (R := fun i => i = Bb ∨ In a1 i) rfl ?eg hit ?hT ?hR ?hargs
    (fun t A => RB A P6 3 [.int .i64 (7 * (t : Int))] ∧ Mods Nix w A ∧ Mods Nix w1 A)
    (fun c A => False) ?hI ?hIx ?h0 ?hround ?hdone ?hstop
  case eg => exact run_enter Tryd.func105 (by kernel_rfl) rfl
  case hT => rintro i h; exact h.elim
  case hR =>
    rintro i (rfl | hi)
    · omega
    · have := hlt i hi; omega
  case hargs =>
    rintro t A args ⟨rfl⟩
    rfl
  case hI =>
    rintro t A B ⟨h3, h4, h5⟩ hm
    exact ⟨h3.mods hm (fun s => by have := hTT s; omega), h4.trans' hm (fun i hi e => by have := hTT e; omega), h5.trans' hm (fun i hi e => by have := hTT e; omega)⟩
  case hIx =>
    rintro c A B h hm
    exact h
  case h0 => exact ⟨b6, hM4, hM14⟩
  case hstop =>
    rintro c W h hK
    exact h.elim
  case hdone =>
    rintro W ⟨h3, h4, h5⟩ hK
    have c6 : W.cell? ⟨P6, 0, none⟩ = some (.int .i64 7) := h3.cell rfl
    simp only [Exit.inBlock, Exit.then]
    go_at_K
    have T47 := f47 W a1 52 c1 l (hS1s.mods h5 (fun _ _ f => f)) ⟨by omega⟩
    have T46 : ∀ w1, Calls Tryd.prog 46 #[.slice a1 52 c1] w1 fun e w' => e = .returned (.int .i64 1) ∧ w1 = w' := fun w1 => f46 w1 a1 52 c1 ⟨by omega⟩ 1 ⟨rfl⟩
    go_wp2_with (first | (go_at_call 47; with_reducible refine T47.mono ?_; rintro e w7 ⟨a7, c7, rfl, hS7⟩) | (go_at_call 46; with_reducible refine (T46 _).mono ?_; rintro e w' ⟨rfl, rfl⟩))
    have hK' : w7.heap[W4.heap.size]? = some (.deferred (some [])) := hS7.mods.heap hK (fun f => f)
    refine marks_ret (R := fun e w' => e = .returned (.bool true) ∧ Mods Nix w w') hK' (results_tmp rfl _ _ _) ⟨rfl, ?_⟩
    exact (h4.trans' hS7.mods (fun _ _ f => f)).putObj (.inr (by omega)) _
  case hround =>
    rintro lp t A args ht ⟨h3, h4, h5⟩ ⟨rfl⟩ hlt2 hlp hdf
    obtain rfl : t = 0 := by omega
    rw [Nat.mul_zero, List.drop_zero, hfn.out]
    obtain ⟨x1, hx1⟩ : ∃ x, Eqn x (be (l.take 4)) := ⟨_, ⟨rfl⟩⟩
    obtain ⟨x2, hx2⟩ : ∃ x, Eqn x (timeOf l) := ⟨_, ⟨rfl⟩⟩
    rw [← hx1.out, ← hx2.out]
    obtain ⟨E, hE⟩ : ∃ E, Eqn E A.heap.size := ⟨_, ⟨rfl⟩⟩
    obtain ⟨A2, hA2⟩ : ∃ A2, Eqn A2 (A.alloc (.cells #[.int .i64 x1, .int .i64 x2, .int .i64 7, .int .i64 160, .int .i64 1] 52)) := ⟨_, ⟨rfl⟩⟩
    have hAM : Mods Nix A A2 := by rw [hA2.out]; exact alloc_mods _ _
    have rE : RB A2 E 52 [.int .i64 x1, .int .i64 x2, .int .i64 7, .int .i64 160, .int .i64 1] := by rw [hA2.out, hE.out]; exact RB.new A _ 52
    have hEz := hE.out
    have hEA : W4.heap.size + 1 < E := by omega
    have hEB : E < A2.heap.size := rE.lt
    have hq := hM14.size
    clear hEz
    gi_wp2
    rw [← hA2.out, ← hE.out]
    refine ⟨(hAM.block _ (by omega) (fun f => f)).trans hdf, (hAM.block _ (by omega) (fun f => f)).trans (Array.getElem?_eq_getElem _), ⟨hAM.block _ (by omega) (fun f => f), fun i hi => hAM.block _ (by have := hlt i hi; omega) (fun f => f)⟩, fun W2 hm => ?_⟩
    have r3 := (h3.mods hAM (fun f => f)).mods hm (by omega)
    have rE2 := rE.mods hm (by omega)
    have c6 : W2.cell? ⟨P6, 0, none⟩ = some (.int .i64 0) := r3.cell rfl
    have f6 := r3.free 0
    have c2 : W2.cell? ⟨E, 2, none⟩ = some (.int .i64 7) := rE2.cell rfl
    have hz2 := hm.size
    gi_wp2
    have hm5 : Mods (fun i => i = P6) W2 (W2.setCell ⟨P6, 0, none⟩ (.int .i64 7)) := (Mods.refl (fun i => i = P6) W2).setCell (.inl rfl) _
    refine ⟨hm5.block _ (by omega) (by omega), hm5.block _ (by omega) (by omega), fun i hi => hm5.block i ?_ ?_, hm5.size, r3.set 0 _, ?_, ?_⟩
    · rcases hi with rfl | hi
      · omega
      · have := hlt i hi; omega
    · rcases hi with rfl | hi
      · omega
      · have := hlt i hi; omega
    · exact ((h4.trans' hAM (fun _ _ f => f)).trans' hm (fun i hi e => by omega)).trans' hm5 (fun i hi e => by omega)
    · exact ((h5.trans' hAM (fun _ _ f => f)).trans' hm (fun i hi e => by omega)).trans' hm5 (fun i hi e => by omega)
end Go.Proofs.YtladijfaeieidaaDoor
