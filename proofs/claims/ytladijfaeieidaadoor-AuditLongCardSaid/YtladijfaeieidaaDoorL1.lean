/- Arguments of chapter 16's statements: entries that came in, read off the row's condition. No condition. -/
import Derived.Test.YtladijfaeieidaaDoorL0
import Derived.Test.YtladijfaeieidaaDoorA9
import Derived.Deep.Slices
import Derived.Deep.Fields
import Derived.ChangeSame
namespace Go.Proofs.YtladijfaeieidaaDoor
open Go.ChangeShapes Go.WideShapes Go.ChangeAt Go.RowKit Go.Deep

section
variable {H : Type} {enc : TypeId × Value → H}
theorem cells52 : Tryd.prog.cellsOf 52 = 5 := by kernel_rfl
/-- Five cells that read as an entry are one. -/
theorem ent_cells {W : World} {base : Nat} {spare : Nat → Bool} {held : Bool} {fuel : Nat} {cs : List Value} {x : DataW H × List MemPlace} (hl : cs.length = 5) (h : DataW.trod enc Tryd.prog W base spare held fuel 52 cs = some x) :
    ∃ e : Ent, cs = [.int .i64 e.q, .int .i64 e.t, .int .i64 e.f, .int .i64 e.r, .int .i64 e.s] ∧ e.t ≤ 9223372036854775807 := by
  match cs, hl with
  | [c0, c1, c2, c3, c4], _ =>
    obtain ⟨ys, n, -, -, hlen, hyl, hf⟩ := DataW.trod_struct Tryd.underlying52 h
    match ys, hyl with
    | [y0, y1, y2, y3, y4], _ =>
      have k3 : Tryd.prog.cellsOf 3 = 1 := by kernel_rfl
      have k2 : Tryd.prog.cellsOf 2 = 1 := by kernel_rfl
      have k50 : Tryd.prog.cellsOf 50 = 1 := by kernel_rfl
      have h0 : DataW.trod enc Tryd.prog W base spare held n 3 [c0] = some y0 := by simpa [k3] using hf 0 _ rfl
      have h1 : DataW.trod enc Tryd.prog W base spare held n 2 [c1] = some y1 := by simpa [k2] using hf 1 _ rfl
      have h2 : DataW.trod enc Tryd.prog W base spare held n 3 [c2] = some y2 := by simpa [k3] using hf 2 _ rfl
      have h3 : DataW.trod enc Tryd.prog W base spare held n 50 [c3] = some y3 := by simpa [k50] using hf 3 _ rfl
      have h4 : DataW.trod enc Tryd.prog W base spare held n 3 [c4] = some y4 := by simpa [k3] using hf 4 _ rfl
      obtain ⟨n0, e0, -, -⟩ := DataW.trod_int Tryd.underlying3 h0
      obtain ⟨n1, e1, -, w1⟩ := DataW.trod_int Tryd.underlying2 h1
      obtain ⟨n2, e2, -, -⟩ := DataW.trod_int Tryd.underlying3 h2
      obtain ⟨n3, e3, -, -⟩ := DataW.trod_int Tryd.underlying50 h3
      obtain ⟨n4, e4, -, -⟩ := DataW.trod_int Tryd.underlying3 h4
      cases e0; cases e1; cases e2; cases e3; cases e4
      exact ⟨⟨n0, n1, n2, n3, n4⟩, rfl, (i64_wf w1).2⟩
set_option maxRecDepth 100000 in
theorem open_ents {W : World} {base : Nat} {v : Value} {d : DataW H} {p : List MemPlace} (hval : Value.okWide Tryd.prog W .any base 47 v) (hd : DataW.Trod enc Tryd.prog W 0 (fun _ => true) true 47 v d p) :
    ∃ a n c es, v = .slice a n c ∧ EsIn W a n c es := by
  obtain ⟨a, n, c, rfl⟩ := okWide_slice Tryd.underlying47 hval
  obtain ⟨fuel, hf⟩ := hd
  rcases open_slice Tryd.underlying47 hf with ⟨h1, _⟩ | ⟨ad, len, cap, m, n', D, Pl, h1, _, hl, hm, hmm, _, hi⟩
  · have h2 : Value.slice a n c = .slice none 0 0 := by simpa [Value.cells] using h1
    injection h2 with e1 e2 e3
    subst e1 e2 e3
    exact ⟨none, 0, 0, [], rfl, rfl, Nat.le_refl _, Nat.zero_le _, fun e h => (by cases h), fun i e h => (by simp at h)⟩
  · have h2 : Value.slice a n c = .slice (some ad) len cap := by simpa [Value.cells] using h1
    injection h2 with e1 e2 e3
    subst e1 e2 e3
    have hk : Tryd.prog.underlying 47 = some (.slice 52) := Tryd.underlying47
    simp only [Value.okWide, hk, Cell.okWide, Cell.ok] at hval
    obtain ⟨-, -, -, hspot, -⟩ := hval
    obtain ⟨b, o, s⟩ := ad
    simp at hspot
    subst hspot
    have key : ∀ i, ∃ e : Ent, i < n → EntAt W b (o + i * 5) e ∧ e.t ≤ 9223372036854775807 := by
      intro i
      by_cases h : i < n
      · obtain ⟨cs', hc, ht⟩ := hi i (by rw [hmm]; simp; omega)
        rw [cells52] at hc
        obtain ⟨_, hcl, hat⟩ := World.cells?_some hc
        obtain ⟨e, he, hle⟩ := ent_cells hcl ht
        refine ⟨e, fun _ => ⟨?_, hle⟩⟩
        have q0 := hat 0 (by omega)
        have q1 := hat 1 (by omega)
        have q2 := hat 2 (by omega)
        have q3 := hat 3 (by omega)
        have q4 := hat 4 (by omega)
        rw [Addr.add_lit, Addr.add_lit, he] at q0 q1 q2 q3 q4
        exact ⟨q0, q1, q2, q3, q4⟩
      · exact ⟨⟨0, 0, 0, 0, 0⟩, fun h2 => (h h2).elim⟩
    obtain ⟨F, hF⟩ := Classical.axiomOfChoice key
    refine ⟨_, n, c, (List.range n).map F, rfl, by simp, hl, hm, fun e he => ?_, fun i e he => ?_⟩
    · obtain ⟨i, h1, rfl⟩ := List.mem_map.1 he
      exact (hF i (by simpa using h1)).2
    · have hin : i < n := by have := (List.getElem?_eq_some_iff.1 he).1; simpa using this
      have : e = F i := by
        rw [List.getElem?_map, List.getElem?_range hin] at he
        exact (Option.some.inj he).symm
      subst this
      exact ⟨b, o, rfl, (hF i hin).1⟩
set_option maxRecDepth 100000 in
theorem open_ent {W : World} {base : Nat} {v : Value} {d : DataW H} {p : List MemPlace} (hval : Value.okWide Tryd.prog W .any base 52 v) (hd : DataW.Trod enc Tryd.prog W 0 (fun _ => true) true 52 v d p) :
    ∃ e : Ent, v = e.val ∧ e.t ≤ 9223372036854775807 := by
  obtain ⟨cs, rfl, hsz⟩ := okWide_struct Tryd.underlying52 hval
  obtain ⟨fuel, hf⟩ := hd
  obtain ⟨l⟩ := cs
  have hl : l.length = 5 := hsz.trans cells52
  have hf' : DataW.trod enc Tryd.prog W 0 (fun _ => true) true fuel 52 l = some (d, p) := by simpa [Value.cells] using hf
  obtain ⟨e, he, hle⟩ := ent_cells hl hf'
  refine ⟨e, ?_, hle⟩
  rw [he]
  rfl
end
end Go.Proofs.YtladijfaeieidaaDoor
