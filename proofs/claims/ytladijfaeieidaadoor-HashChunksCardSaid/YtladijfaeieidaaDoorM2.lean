/- A region that draws its order and only reads, within a round of a range over a function: one walk in the order of the text serves. Condition: it defers nothing. -/
import Derived.Test.YtladijfaeieidaaDoorM1
import Derived.Sort.QuietIn
import Derived.Sort.QuietThIn
namespace Go.Proofs.YtladijfaeieidaaDoor
open Go.RowKit Go.Shelf

section
variable {F : Fence} {n : Nat} {P : Program} {ops : Array Oper} {md : Region.Mode} {C : World → Prop}
/-- It defers nothing. -/
def noDefer (o : Oper) : Bool := match o.op with | .defer _ => false | _ => true
theorem noDefer_ne {o : Oper} (h : noDefer o = true) : ∀ c, o.op ≠ .defer c := fun c e => by
  unfold noDefer at h
  rw [e] at h
  cases h
theorem quiet_op {o : Oper} {a : Act} {K : Act → Prop} {K' : Act → World → Prop} {Q' : Exit → Act → World → Prop} {w : World} (hd : noDefer o = true) (hw : C w) (h : ∀ a w', C w' → K a → K' a w')
    (ha : o.askedIn F P a C) (hh : o.quietIn F n P a C K) : o.wpIn F n P a w K' Q' := by
  obtain ⟨v, h1, h2⟩ := hh
  have h3 := h1 w hw
  unfold Oper.quietAtIn at h3
  refine ⟨ha w hw, ?_⟩
  rw [Oper.semAt_eq _ _ _ (noDefer_ne hd)]
  generalize (execOp a.eval o).run P w = r at *
  cases r with
  | halt x w' => simp only [Oper.quietUponIn] at h3
  | ok x w' =>
    cases x <;> simp only [Oper.quietUponIn] at h3 <;> simp only [Oper.uponIn]
    case value u =>
      obtain ⟨rfl, rfl⟩ := h3
      exact h _ _ hw h2
    case skip =>
      obtain ⟨rfl, rfl⟩ := h3
      exact h _ _ hw h2
    case enter f args =>
      obtain ⟨rfl, hd, hc⟩ := h3
      exact ⟨hd, hc.mono fun e w'' ⟨he, hw''⟩ => by subst he; exact h _ _ hw'' h2⟩
theorem quiet_opIn {i : Nat} {a : Act} {K : Act → Prop} {K' : Act → World → Prop} {Q' : Exit → Act → World → Prop} {w : World} (hd : ∀ o, ops[i]? = some o → noDefer o = true) (hC : C w) (h : ∀ a w', C w' → K a → K' a w')
    (hh : qOpIn F n P ops C i K a) : wpOpIn F n P ops Q' i K' a w := by
  unfold qOpIn at hh
  unfold wpOpIn
  split
  · rename_i ho
    simp only [ho] at hh
    exact h _ _ hC hh
  · rename_i o ho
    simp only [ho] at hh
    obtain ⟨ha, hh⟩ := hh
    split
    · rename_i hw
      simp only [hw, if_true] at hh
      exact quiet_op (hd o ho) hC h ha hh
    · rename_i hw
      simp only [hw] at hh
      exact ⟨ha w hC, h _ _ hC hh⟩
theorem any_of_quiet {Q : Act → Prop} {Q' : Exit → Act → World → Prop} (hd : ∀ (i : Nat) (o : Oper), ops[i]? = some o → noDefer o = true) (hQ : ∀ a w, C w → Q a → Q' .normal a w) : ∀ (fuel : Nat) (listed : Array Bool) (a : Act) (w : World), C w →
    wpAnyQIn F n P md ops C Q fuel listed a → wpAnyIn F n P md ops Q' fuel listed a w
  | 0, _, _, _, hw, h => ⟨h.1, hQ _ _ hw h.2⟩
  | fuel + 1, _, _, _, hw, h => ⟨fun h0 => hQ _ _ hw (h.1 h0), fun i hi => quiet_opIn (hd i) hw (fun a' w' hw' => any_of_quiet hd hQ fuel _ a' w' hw') (h.2 i hi)⟩
/-- One walk of the text's order serves every order, within a round too. -/
theorem region_quiet_round {id : Nat} {Q : Exit → Act → World → Prop} {a : Act} {w : World} {l : List Oper} (hd : l.all noDefer = true) (hm : P.follows .mixedOrders = true) (hB : Region.lexB .any l.toArray = true)
    (h : wpQuietIn F n P l.toArray (fun w' => ∃ n, w' = w.drewN n) (fun a' => ∀ w', (∃ n, w' = w.drewN n) → Q .normal a' w') l a) : (Code.region id l.toArray true).wpIn F n P Q a w := by
  simp only [Region.lexB, Bool.and_eq_true] at hB
  refine wpIn_region_any hm (any_of_quiet (C := fun w' => ∃ n, w' = w.drewN n) (Q := fun a' => ∀ w', (∃ n, w' = w.drewN n) → Q .normal a' w') (fun i o ho => ?_) (fun _ w' hw' h => h w' hw') _ _ _ _ ⟨1, rfl⟩ ?_)
  · exact List.all_eq_true.1 hd o (List.mem_of_getElem? (by simpa using ho))
  · have := wpAnyQIn_lex (F := F) (n := n) (P := P) (C := fun w' => ∃ n, w' = w.drewN n) (Q := fun a' => ∀ w', (∃ n, w' = w.drewN n) → Q .normal a' w') (md := .any) hB.1 l.toArray.toList 0 (Array.replicate l.toArray.size false) a (by simp) (by simpa using hB.2) (by simpa using h)
    simpa using this
end
end Go.Proofs.YtladijfaeieidaaDoor
