/- A range over a function, for an iterator that keeps cells of its own between the rounds: what an iterator owes (Iter), and the law for the statement. Condition: the iterator is a closure of this program. -/
import Derived.Test.YtladijfaeieidaaDoorS
import Derived.RangeFuncNested
import Derived.RangeFuncBound
import Derived.RangeFuncCalls
import Derived.RangeFuncLeaves
import Derived.Shelf.Abstract
import Derived.Shelf.RegionOpen
import Derived.OwnWalkIn
import Derived.TacticsInMore
import Derived.LoopNIn
import Derived.LoopIn
namespace Go.Proofs.YtladijfaeieidaaDoor
open Go.RowKit

theorem Mods.putObj {S : Nat → Prop} {a w : World} (h : Mods S a w) {g : Nat} (hp : S g ∨ a.heap.size ≤ g) (o : Obj) : Mods S a (w.putObj g o) :=
  h.trans ⟨rfl, rfl, rfl, by simp, fun k _ hn => World.putObj_heap_other (fun e => hn (e ▸ hp))⟩

/-- WHAT AN ITERATOR OWES: N rounds at most; in round k it calls the loop's body on arguments of which Arg k holds; between the rounds it changes blocks of T alone (and lays new ones); it asks of the body that it leave the blocks of R as they are. -/
def Iter (P : Program) (g : Nat) (lb : Array Value) (w : World) (N : Nat) (Arg : Nat → World → Array Value → Prop) (T R : Nat → Prop) : Prop :=
  ∀ (l : Nat) (J : Nat → World → Prop) (Jx : World → Prop) (W : World), (∀ k, k < w.heap.size → W.heap[k]? = w.heap[k]?) → w.heap.size ≤ W.heap.size →
    (∀ k A B, J k A → Mods T A B → J k B) → (∀ A B, Jx A → Mods T A B → Jx B) →
    (∀ k A args, k < N → J k A → Arg k A args → YieldAt Fence.wide 0 P l args A fun e B =>
      (e = .returned (.bool true) ∧ J (k + 1) B ∧ (∀ i, R i → B.heap[i]? = A.heap[i]?) ∧ A.heap.size ≤ B.heap.size) ∨ (e = .returned (.bool false) ∧ Jx B)) →
    J 0 W → Calls P g (#[.func (.yield l) #[] #[]] ++ lb) W fun e B => (∃ v, e = .returned v) ∧ (J N B ∨ Jx B)

/-- How a round may be left: the loop's two records lie as they lay; where it goes on, R lies as it lay and I holds of the next round. -/
def roundEnd (B : Nat) (R : Nat → Prop) (I : World → Prop) (Ix : Code → World → Prop) (A : World) : Exit → Act → World → Prop
  | .normal, _, W => W.heap[B]? = A.heap[B]? ∧ W.heap[B + 1]? = A.heap[B + 1]? ∧ (∀ i, R i → W.heap[i]? = A.heap[i]?) ∧ A.heap.size ≤ W.heap.size ∧ I W
  | .ret, _, W => W.heap[B]? = A.heap[B]? ∧ W.heap[B + 1]? = A.heap[B + 1]? ∧ Ix .ret W
  | .exit id, _, W => W.heap[B]? = A.heap[B]? ∧ W.heap[B + 1]? = A.heap[B + 1]? ∧ Ix (.exit id) W
  | _, _, _ => False

/-- THE STATEMENT 'for .. := range g': I k holds ahead of round k, and abides changes of T's blocks and of the loop's own two records; Ix c: the body has left by c. -/
theorem range_law {P : Program} {g : Operand} {ps : Array Tmp} {assign body : Code} {Q : Exit → Act → World → Prop} {a : Act} {w : World} {gf : Nat} {lb : Array Value}
    (hg : a.eval g = .func (.func gf) #[] lb) (eg : ∀ args w, (callFunc gf args).run P w = .ok (.enter gf args) w)
    {N : Nat} {Arg : Nat → World → Array Value → Prop} {T R : Nat → Prop} (hit : Iter P gf lb w N Arg T R)
    (hT : ∀ k, T k → k < w.heap.size) (hR : ∀ k, R k → k < w.heap.size) (hargs : ∀ k A args, Arg k A args → args.size = ps.size)
    (I : Nat → World → Prop) (Ix : Code → World → Prop)
    (hI : ∀ k A B, I k A → Mods (fun i => T i ∨ i = w.heap.size ∨ i = w.heap.size + 1) A B → I k B)
    (hIx : ∀ c A B, Ix c A → Mods (fun i => T i ∨ i = w.heap.size ∨ i = w.heap.size + 1) A B → Ix c B)
    (h0 : I 0 w)
    (hround : ∀ l k A args, k < N → I k A → Arg k A args → w.heap.size + 1 < A.heap.size → (∃ r, A.heap[w.heap.size + 1]? = some (.loop r)) → A.heap[w.heap.size]? = some (.deferred (some [])) →
      assign.wpIn (Fence.wide.inRound l) 0 P (Exit.then (fun a1 W1 => W1.heap[w.heap.size]? = A.heap[w.heap.size]? ∧ W1.heap[w.heap.size + 1]? = A.heap[w.heap.size + 1]? ∧ (∀ i, R i → W1.heap[i]? = A.heap[i]?) ∧ A.heap.size ≤ W1.heap.size ∧
          ∀ W2, Mods (fun i => i = w.heap.size + 1) W1 W2 → body.wpIn (Fence.wide.inRound l) 0 P (roundEnd w.heap.size R (I (k + 1)) Ix W2) a1 W2) (fun _ _ _ => False))
        { tmps := (ps.zip args).foldl (fun t (p, v) => t.setIfInBounds p v) a.tmps, defers := [] } A)
    (hdone : ∀ W, I N W → W.heap[w.heap.size]? = some (.deferred (some [])) → Q .normal { a with defers := { target := .collected w.heap.size, args := #[] } :: a.defers } W)
    (hstop : ∀ c W, Ix c W → W.heap[w.heap.size]? = some (.deferred (some [])) → c.wp P Q { a with defers := { target := .collected w.heap.size, args := #[] } :: a.defers } W) :
    (Code.rangeFunc g ps assign body).wp P Q a w := by
  refine (wpIn_wide (n := 0)).1 (wpIn_rangeFunc ?_)
  intro fn hfn
  obtain ⟨rec, hrec⟩ : ∃ rec : LoopState → Option Code → Loop, rec = fun st pe => { state := st, pending := pe, fn, tmps := a.tmps, params := ps, assign, body, defers := w.heap.size } := ⟨_, rfl⟩
  obtain ⟨W1, hW1⟩ : ∃ W1, (w.alloc (.deferred (some []))).alloc (.loop (rec .ready none)) = W1 := ⟨_, rfl⟩
  have hL1 : W1.heap[w.heap.size + 1]? = some (.loop (rec .ready none)) := by
    rw [← hW1]; have := World.alloc_heap_new (w.alloc (.deferred (some []))) (.loop (rec .ready none)); rwa [World.size_alloc] at this
  have hK1 : W1.heap[w.heap.size]? = some (.deferred (some [])) := by
    rw [← hW1]; exact (Below.heap_alloc _ _ _ (by simp)).trans (World.alloc_heap_new w _)
  have hM1 : Mods (fun i => T i ∨ i = w.heap.size ∨ i = w.heap.size + 1) w W1 := by
    rw [← hW1]; exact ((Mods.refl _ w).alloc _).alloc _
  have hz1 : W1.heap.size = w.heap.size + 2 := by rw [← hW1]; simp
  refine ⟨w.heap.size + 1, [{ target := .collected w.heap.size, args := #[] }], W1, { target := .fn (.func gf) lb, args := #[.func (.yield (w.heap.size + 1)) #[] #[]] }, W1, gf,
    #[.func (.yield (w.heap.size + 1)) #[] #[]] ++ lb, W1, ?_, ?_, fun _ _ => trivial, ?_, fun h => by simp [Fence.wide] at h, ?_⟩
  · rw [← hW1, hrec]; exact run_enterLoop_outer _ _ _ _ _
  · simp only [resolve, hg]
    simp [go_sem]
  · simp [invoke, go_sem, eg]
  refine callsIn_wide.2 ((hit (w.heap.size + 1)
    (fun k W => I k W ∧ W.heap[w.heap.size + 1]? = some (.loop (rec .ready none)) ∧ W.heap[w.heap.size]? = some (.deferred (some [])))
    (fun W => ∃ c, Ix c W ∧ W.heap[w.heap.size + 1]? = some (.loop (rec .done (some c))) ∧ W.heap[w.heap.size]? = some (.deferred (some [])))
    W1 ?_ (by omega) ?_ ?_ ?_ ⟨hI 0 _ _ h0 hM1, hL1, hK1⟩).mono ?_)
  · intro k hk
    have hN : Mods Nix w W1 := by rw [← hW1]; exact ((Mods.refl _ w).alloc _).alloc _
    exact hN.block k hk (fun f => f)
  · rintro k A B ⟨hi, hl, hk⟩ hm
    exact ⟨hI k A B hi (hm.mono (fun _ _ t => .inl t)), hm.heap hl (fun t => by have := hT _ t; omega), hm.heap hk (fun t => by have := hT _ t; omega)⟩
  · rintro A B ⟨c, hc, hl, hk⟩ hm
    exact ⟨c, hIx c A B hc (hm.mono (fun _ _ t => .inl t)), hm.heap hl (fun t => by have := hT _ t; omega), hm.heap hk (fun t => by have := hT _ t; omega)⟩
  · -- one round
    rintro k A args hk ⟨hi, hl, hk2⟩ harg
    have hlt : w.heap.size + 1 < A.heap.size := lt_heap hl
    have hy := run_yield (P := P) (args := args) hl (by rw [hrec]; exact hargs k A args harg)
    rw [hrec] at hy
    refine ⟨fn, _, assign, body, hy, roundIn_of_wpIn hfn (wpIn_mono (hround (w.heap.size + 1) k A args hk hi harg hlt ⟨_, hl⟩ hk2) ?_)⟩
    rintro e a1 V1 hp
    cases e with
    | normal =>
      obtain ⟨e0, e1, eR, eS, hbody⟩ := hp
      have hl1 : V1.heap[w.heap.size + 1]? = some (.loop (rec .ready none)) := e1.trans hl
      refine ⟨_, run_beginRound hl1 (by rw [hrec]), wpIn_mono (hbody _ ((Mods.refl (fun i => i = w.heap.size + 1) V1).putObj (.inl rfl) _)) ?_⟩
      have hl2 : (V1.putObj (w.heap.size + 1) (.loop { rec .ready none with state := .busy })).heap[w.heap.size + 1]? = some (.loop { rec .ready none with state := .busy }) := World.putObj_heap_same (lt_heap hl1)
      have hk3 : (V1.putObj (w.heap.size + 1) (.loop { rec .ready none with state := .busy })).heap[w.heap.size]? = some (.deferred (some [])) := (World.putObj_heap_other (by omega)).trans (e0.trans hk2)
      have fin : ∀ (jump : Option Code) (V3 : World), V3.heap[w.heap.size + 1]? = (V1.putObj (w.heap.size + 1) (.loop { rec .ready none with state := .busy })).heap[w.heap.size + 1]? → V3.heap[w.heap.size]? = (V1.putObj (w.heap.size + 1) (.loop { rec .ready none with state := .busy })).heap[w.heap.size]? →
          (Instr.endRound (w.heap.size + 1) jump).run P V3 = .ok (.bool jump.isNone) (V3.putObj (w.heap.size + 1) (.loop (rec (if jump.isNone then .ready else .done) jump))) ∧
          (V3.putObj (w.heap.size + 1) (.loop (rec (if jump.isNone then .ready else .done) jump))).heap[w.heap.size + 1]? = some (.loop (rec (if jump.isNone then .ready else .done) jump)) ∧
          (V3.putObj (w.heap.size + 1) (.loop (rec (if jump.isNone then .ready else .done) jump))).heap[w.heap.size]? = some (.deferred (some [])) := by
        intro jump V3 g1 g0
        have hl3 := g1.trans hl2
        have := run_endRound (P := P) jump hl3
        rw [hrec] at this ⊢
        exact ⟨this, World.putObj_heap_same (lt_heap hl3), (World.putObj_heap_other (by omega)).trans (g0.trans hk3)⟩
      rintro e a3 V3 hp
      cases e with
      | normal =>
        obtain ⟨g0, g1, gR, gS, hi3⟩ := hp
        obtain ⟨hr, hl4, hk4⟩ := fin none V3 g1 g0
        refine ⟨_, _, hr, .inl ⟨rfl, ⟨hI _ _ _ hi3 ((Mods.refl _ V3).putObj (.inl (.inr (.inr rfl))) _), hl4, hk4⟩, fun i hi' => ?_, by simp only [World.putObj_size] at gS ⊢; omega⟩⟩
        have hlt' := hR i hi'
        rw [World.putObj_heap_other (by omega), gR i hi', World.putObj_heap_other (by omega), eR i hi']
      | ret =>
        obtain ⟨g0, g1, hi3⟩ := hp
        obtain ⟨hr, hl4, hk4⟩ := fin (some .ret) V3 g1 g0
        exact ⟨_, _, hr, .inr ⟨rfl, .ret, hIx _ _ _ hi3 ((Mods.refl _ V3).putObj (.inl (.inr (.inr rfl))) _), hl4, hk4⟩⟩
      | exit id =>
        obtain ⟨g0, g1, hi3⟩ := hp
        obtain ⟨hr, hl4, hk4⟩ := fin (some (.exit id)) V3 g1 g0
        exact ⟨_, _, hr, .inr ⟨rfl, .exit id, hIx _ _ _ hi3 ((Mods.refl _ V3).putObj (.inl (.inr (.inr rfl))) _), hl4, hk4⟩⟩
      | goto t => exact hp.elim
      | panic ch => exact hp.elim
      | outgrown => exact hp.elim
    | _ => exact hp.elim
  · -- behind the iterator
    rintro e V ⟨⟨v, rfl⟩, (⟨hi, hl, hk⟩ | ⟨c, hc, hl, hk⟩)⟩
    · refine ⟨none, _, by have := run_endLoop (P := P) hl (by rw [hrec]; simp); rw [hrec] at this; exact this, ?_⟩
      exact hdone _ (hI _ _ _ hi ((Mods.refl _ V).putObj (.inl (.inr (.inr rfl))) _)) ((World.putObj_heap_other (by omega)).trans hk)
    · refine ⟨some c, _, by have := run_endLoop (P := P) hl (by rw [hrec]; simp); rw [hrec] at this; exact this, ?_⟩
      exact (wpIn_wide (n := 0)).2 (hstop c _ (hIx _ _ _ hc ((Mods.refl _ V).putObj (.inl (.inr (.inr rfl))) _)) ((World.putObj_heap_other (by omega)).trans hk))

/-- A function whose body holds a range over a function: its contract from its body's walk. -/
theorem calls_marks {P : Program} {f : FuncId} {fn : Func} {c : Code} {args : Array Value} {w : World} {R : Ending → World → Prop} (hf : P.funcs[f]? = some fn) (hb : fn.body = some c)
    (h : c.wp P (bodyPostM Fence.wide 0 P fn R) { tmps := args ++ Array.replicate (fn.ntmps - args.size) undef, defers := [] } w) : Calls P f args w R :=
  (callsIn_wide (n := 0)).1 (callsIn_of_wp_marks hf hb trivial ((wpIn_wide (n := 0)).2 h))
end Go.Proofs.YtladijfaeieidaaDoor
