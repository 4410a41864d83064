/- Arguments of chapter 3's HashParts: parts that came in, read off the row's condition. No condition. -/
import Derived.Test.YtladijfaeieidaaDoorL0
import Derived.Test.YtladijfaeieidaaDoorS2
import Derived.Deep.Slices
import Derived.ChangeSame
namespace Go.Proofs.YtladijfaeieidaaDoor
open Go.ChangeShapes Go.WideShapes Go.ChangeAt Go.RowKit Go.Deep

section
variable {H : Type} {enc : TypeId × Value → H}
theorem cells22 : Tryd.prog.cellsOf 22 = 1 := by kernel_rfl
/-- A cell that holds a slice of bytes. -/
theorem part_cell {W : World} {base : Nat} {spare : Nat → Bool} {held : Bool} {fuel : Nat} {v : Value} {x : DataW H × List MemPlace} (hsp : ∀ k, spare k = true) (h : DataW.trod enc Tryd.prog W base spare held fuel 22 [v] = some x) :
    ∃ a n c l, v = .slice a n c ∧ Pt W a n c l := by
  rcases open_ints Tryd.underlying22 Tryd.underlying5 cells5 h with ⟨h1, _⟩ | ⟨ad, len, cap, zs, h1, _, hl, hm, hz, _, hcell, hw⟩
  · cases h1
    exact ⟨none, 0, 0, [], rfl, .of (by simpa [bv] using (Own.none W 5 1).toSv) Byt.nil⟩
  · cases h1
    have hzl : zs.length = cap := by simpa [hsp] using hz
    have hby : Byt (zs.take len) := fun x hx => by
      have := hw x (List.mem_of_mem_take hx)
      simp [Lit.wf, IntKind.min, IntKind.max, IntKind.bits, IntKind.signed] at this
      omega
    refine ⟨_, len, cap, zs.take len, rfl, hl, hby, by rw [List.length_take]; omega, ?_⟩
    by_cases h0 : len = 0
    · exact .inr h0
    · left
      obtain ⟨b, o, s⟩ := ad
      have hc0 := hcell 0 (by omega)
      have hbl : s = none ∧ ∃ cur t' fz, W.heap[b]? = some (.cells cur t' fz) := by
        simp only [World.cell?, Addr.add] at hc0
        split at hc0
        · rename_i cur t' fz hb
          refine ⟨?_, cur, t', fz, by simpa using hb⟩
          cases s <;> simp at hc0 ⊢
        · cases hc0
      obtain ⟨rfl, cur, t', fz, hb⟩ := hbl
      refine ⟨by simp [bv]; omega, hl, hm, fun e => (by cases e), fun ad e => ?_⟩
      cases e
      refine ⟨rfl, cur, t', fz, hb, fun i u hu => ?_⟩
      have hi : i < (bv (zs.take len)).length := (List.getElem?_eq_some_iff.1 hu).1
      simp only [bv, List.length_map, List.length_take] at hi
      have h3 := hcell i (by omega)
      rw [Addr.add_lit, cell_of_row W b _ cur t' fz hb] at h3
      rw [h3, ← hu, getElem?_bv _ _ (by simp; omega)]
      have hi2 : i < len := by omega
      simp [List.getD, hi2]
set_option maxRecDepth 100000 in
theorem open_parts {W : World} {base : Nat} {v : Value} {d : DataW H} {p : List MemPlace} (hval : Value.okWide Tryd.prog W .any base 29 v) (hd : DataW.Trod enc Tryd.prog W 0 (fun _ => true) true 29 v d p) :
    ∃ a n c, v = .slice a n c ∧ Ps W a n c := by
  obtain ⟨a, n, c, rfl⟩ := okWide_slice Tryd.underlying29 hval
  obtain ⟨fuel, hf⟩ := hd
  rcases open_slice1 Tryd.underlying29 cells22 hf with ⟨h1, _⟩ | ⟨ad, len, cap, m, n', V, D, Pl, h1, _, hl, hm, hmm, _, hi⟩
  · have h2 : Value.slice a n c = .slice none 0 0 := by simpa [Value.cells] using h1
    injection h2 with e1 e2 e3
    subst e1 e2 e3
    exact ⟨none, 0, 0, rfl, Nat.le_refl _, Nat.zero_le _, fun t h => by omega⟩
  · have h2 : Value.slice a n c = .slice (some ad) len cap := by simpa [Value.cells] using h1
    injection h2 with e1 e2 e3
    subst e1 e2 e3
    have hk : Tryd.prog.underlying 29 = some (.slice 22) := Tryd.underlying29
    simp only [Value.okWide, hk, Cell.okWide, Cell.ok] at hval
    obtain ⟨-, -, -, hspot, -⟩ := hval
    obtain ⟨b, o, s⟩ := ad
    simp at hspot
    subst hspot
    refine ⟨_, n, c, rfl, hl, hm, fun t ht => ?_⟩
    obtain ⟨h3, h4⟩ := hi t (by rw [hmm]; simp; omega)
    obtain ⟨x, nx, cx, l, e, hp⟩ := part_cell (fun _ => rfl) h4
    rw [Addr.add_lit, e] at h3
    exact ⟨b, o, x, nx, cx, l, rfl, h3, hp⟩
end
end Go.Proofs.YtladijfaeieidaaDoor
