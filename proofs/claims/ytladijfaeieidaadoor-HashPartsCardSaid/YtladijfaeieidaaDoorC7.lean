/- Contracts: Write. Condition: a hash object; a length that an append may come to. -/
import Derived.Test.YtladijfaeieidaaDoorC6
namespace Go.Proofs.YtladijfaeieidaaDoor
open Go.RowKit Go.Shelf
attribute [local go_sem] Oper.semAt_some

theorem run_enter {P : Program} {f : FuncId} {fn : Func} {c : Code} (hf : P.funcs[f]? = some fn) (hname : (fn.name == "runtime.NumGoroutine") = false) (hb : fn.body = some c) (args : Array Value) (w : World) :
    (callFunc f args).run P w = .ok (.enter f args) w := by
  have h1 : fn.name ≠ "runtime.NumGoroutine" := by simpa using hname
  simp [callFunc, hf, h1, hb]
theorem marks_ret {P : Program} {fn : Func} {tmps : Array Value} {R : Ending → World → Prop} {W : World} {d : Nat} {v : Value} (hK : W.heap[d]? = some (.deferred (some [])))
    (hr : (results fn tmps).run P (W.putObj d (.deferred none)) = .ok v (W.putObj d (.deferred none))) (hR : R (.returned v) (W.putObj d (.deferred none))) :
    bodyPostM Fence.wide 0 P fn R .ret { tmps, defers := [{ target := .collected d, args := #[] }] } W :=
  ⟨by simp, .inl ⟨_, _, rfl, run_takeDeferred hK, ⟨v, hr, hR⟩⟩⟩
theorem marks_end {P : Program} {fn : Func} {tmps : Array Value} {R : Ending → World → Prop} {W : World} {d : Nat} {v : Value} (hK : W.heap[d]? = some (.deferred (some [])))
    (hr : (results fn tmps).run P (W.putObj d (.deferred none)) = .ok v (W.putObj d (.deferred none))) (hR : R (.returned v) (W.putObj d (.deferred none))) :
    bodyPostM Fence.wide 0 P fn R .normal { tmps, defers := [{ target := .collected d, args := #[] }] } W :=
  ⟨by simp, .inl ⟨_, _, rfl, run_takeDeferred hK, ⟨v, hr, hR⟩⟩⟩
theorem Byt.app {a b : List Int} (h : Byt a) (k : Byt b) : Byt (a ++ b) := fun x hx => (List.mem_append.1 hx).elim (h x) (k x)
/-- Where in its pieces a message stands. -/
theorem div_at {M b q n t : Nat} (hb : 0 < b) (hM : M = b * q + n) (h1 : b * t ≤ n) (h2 : n < b * t + b) : M / b = q + t := by
  have e : M = b * (q + t) + (n - b * t) := by rw [Nat.mul_add]; omega
  rw [e, Nat.mul_add_div hb, Nat.div_eq_of_lt (by omega)]; rfl
/-- What Write leaves. -/
structure WriteOut (w w' : World) (b : Nat) (a a' : Option Addr) (k : Int) (m : List Int) : Prop where
  ho : HO w' b a' k m
  mods : Mods (fun i => i = b ∨ In a i) w w'
  news : ∀ i, In a' i → In a i ∨ w.heap.size ≤ i
theorem WriteOut.shut {w W : World} {b : Nat} {a a' : Option Addr} {k : Int} {m : List Int} (h : WriteOut w W b a a' k m) {d : Nat} (o : Obj) (hd : w.heap.size ≤ d) (hb : b < w.heap.size) (ha : ∀ i, In a' i → i ≠ d) : WriteOut w (W.putObj d o) b a a' k m :=
  ⟨h.ho.mods ((Mods.refl (fun i => i = d) W).putObj (.inl rfl) o) (by omega) ha, h.mods.putObj (.inr hd) o, h.news⟩
set_option maxHeartbeats 4000000 in
theorem f34 (w : World) (b : Nat) (a : Option Addr) (k : Int) (m : List Int) (h : HO w b a k m) (x : Option Addr) (nx cx : Nat) (l : List Int) (hx : Sv w 5 1 x nx cx (bv l)) (hb : Byt l) (hl : Lim (m ++ l).length) (hxb : ¬ In x b) (hg : GK w) :
    Calls Tryd.prog 34 #[.pointer (some ⟨b, 0, none⟩), .slice x nx cx] w fun e w' => e = .returned (.tuple #[]) ∧ ∃ a', WriteOut w w' b a a' k (m ++ l) := by
  obtain ⟨n, c, h1, h2, h3⟩ := h.ex
  replace h1 := Eqn.mk h1
  have hlt := h2.lt
  have hkd := h.kind
  obtain ⟨hs, hHS⟩ : ∃ hs, Eqn hs (eatN k m (m.length / hbl k)) := ⟨_, ⟨rfl⟩⟩
  rw [← hHS.out] at h2
  obtain ⟨cn, hcn⟩ : ∃ cn : Int, Eqn cn m.length := ⟨_, ⟨rfl⟩⟩
  rw [← hcn.out] at h2
  obtain ⟨rest, hrest⟩ : ∃ rest, Eqn rest (m.drop (hbl k * (m.length / hbl k))) := ⟨_, ⟨rfl⟩⟩
  rw [← hrest.out] at h3
  have hlen : Eqn hs.length 8 := ⟨by rw [hHS.out]; exact length_eatN k m _⟩
  have hz : b < (w.alloc (.cells #[.pointer (some ⟨b, 0, none⟩)] 30)).heap.size := by simp; omega
  have d0 := h2.cell (i := 0) rfl
  have d9 : w.cell? ⟨b, 9, none⟩ = some (.slice a n c) := h2.cell (by simp [hst, hlen.out])
  have d10 : w.cell? ⟨b, 10, none⟩ = some (.int .u64 cn) := h2.cell (by simp [hst, hlen.out])
  have e9 := h2.free 9
  have e10 := h2.free 10
  refine calls_marks (fn := Tryd.f34) Tryd.func34 rfl ?_
  simp only [Tryd.ntmps34, List.size_toArray, List.length_cons, List.length_nil, Nat.reduceAdd, Nat.reduceSub, Array.replicate_succ, Array.replicate_zero, List.push_toArray, List.append_toArray, List.nil_append, List.cons_append]
  obtain ⟨W1, hW1⟩ : ∃ W1, Eqn W1 ((w.setCell ⟨b, 10, none⟩ (.int .u64 (IntKind.u64.wrap (cn + IntKind.u64.wrap nx)))).alloc (.cells #[.pointer (some ⟨b, 0, none⟩)] 30)) := ⟨_, ⟨rfl⟩⟩
  have hxl : Eqn l.length nx := ⟨by have := hx.len; simpa [bv] using this⟩
  have hM1 : Mods (fun i => i = b) w W1 := by rw [hW1.out]; exact (((Mods.refl (fun i => i = b) w).setCell (.inl rfl) _).alloc _)
  have h31 : Own W1 5 1 a n c (bv rest) := h3.mods hM1 (fun i hi e => h.sep (e ▸ hi))
  have hx1 : Sv W1 5 1 x nx cx (bv l) := hx.mods hM1 (fun i hi e => hxb (e ▸ hi))
  have hwr : Eqn (IntKind.u64.wrap (cn + IntKind.u64.wrap nx)) ((m ++ l).length : Int) := ⟨by
    rw [hcn.out]
    have h5 := hl.le
    have h6 := hxl.out
    simp only [List.length_append] at h5 ⊢
    simp only [IntKind.wrap, IntKind.bits, IntKind.signed]
    simp
    omega⟩
  have hr1 : RB W1 b 112 (hst k hs (.slice a n c) (.int .u64 (m ++ l).length)) := by
    have h5 := (h2.set 10 (.int .u64 (IntKind.u64.wrap (cn + IntKind.u64.wrap nx)))).alloc (.cells #[.pointer (some ⟨b, 0, none⟩)] 30)
    rw [← hW1.out, hwr.out] at h5
    obtain ⟨x0, x1, x2, x3, x4, x5, x6, x7, rfl⟩ := eight hs hlen.out
    exact h5
  have hp1 : RB W1 w.heap.size 30 [.pointer (some ⟨b, 0, none⟩)] := by
    rw [hW1.out]
    have := RB.new (w.setCell ⟨b, 10, none⟩ (.int .u64 (IntKind.u64.wrap (cn + IntKind.u64.wrap nx)))) [.pointer (some ⟨b, 0, none⟩)] 30
    simpa using this
  have hnn : n + nx ≤ (m ++ l).length := by have := h1.out; have := hxl.out; simp at *; omega
  have hLnn := hl.of hnn
  clear hnn
  go_wp2_with (at_builtin; rw [← hW1.out]; refine wpList_app rfl (.tmp 22) (.tmp 23) ei22 rfl h31 hx1 rfl rfl (bv_one _) (by have := hLnn.le; omega) hLnn.maxLen ?_)
  intro a1 c1 W2 hO
  clear e9 e10 d0 d9 d10
  have hab : ¬ In a1 b := by
    rintro ⟨ad, e, hb'⟩
    rcases hO.fresh with ⟨ad1, ad2, e1, e2, e3⟩ | hf
    · rw [e2] at e; cases e
      exact h.sep ⟨ad1, e1, by rw [e3, hb']⟩
    · have := hf ad e; have := hM1.size; omega
  have hr2 := hr1.mods hO.mods h.sep
  have hp2 := hp1.mods hO.mods (fun hi => by have := h.in_lt _ hi; omega)
  have f0 := hr2.cell (i := 0) rfl
  have g9 := hr2.free 9
  have f9 : W2.cell? ⟨b, 9, none⟩ = some (.slice a n c) := hr2.cell (by simp [hst, hlen.out])
  have hps : Eqn (W2.cell? ⟨w.heap.size, 0, none⟩) (some (.pointer (some ⟨b, 0, none⟩))) := ⟨hp2.cell rfl⟩
  have hbp : b ≠ w.heap.size := by omega
  have hp3 : W2.cell? ⟨w.heap.size, 0, none⟩ = some (.pointer (some ⟨b, 0, none⟩)) := hp2.cell rfl
  go_wp2_with (first | (go_at_call 29; refine (f29 k _).mono ?_; rintro e w' ⟨rfl, rfl⟩) | (go_at_call 37; refine (f37 _ _ _ _ _).mono ?_; rintro e w' ⟨rfl, rfl⟩))
  obtain ⟨W3, hW3⟩ : ∃ W3, Eqn W3 (((W2.setCell ⟨b, 9, none⟩ (.slice none 0 0)).alloc (.cells #[.slice a1 (n + nx) c1] 22)).alloc (.cells #[.int .i64 (hbl k)] 3)) := ⟨_, ⟨rfl⟩⟩
  rw [← hW3.out]
  have hM3 : Mods (fun i => i = b) W2 W3 := by rw [hW3.out]; exact ((((Mods.refl (fun i => i = b) W2).setCell (.inl rfl) _).alloc _).alloc _)
  have hz3 : W3.heap.size = W2.heap.size + 2 := by rw [hW3.out]; simp
  have hr3 : RB W3 b 112 (hst k hs (.slice none 0 0) (.int .u64 (m ++ l).length)) := by
    rw [hW3.out]
    have h5 := ((hr2.set 9 (.slice none 0 0)).alloc (.cells #[.slice a1 (n + nx) c1] 22)).alloc (.cells #[.int .i64 (hbl k)] 3)
    obtain ⟨x0, x1, x2, x3, x4, x5, x6, x7, rfl⟩ := eight hs hlen.out
    exact h5
  have hBb : RB W3 W2.heap.size 22 [.slice a1 (n + nx) c1] := by
    rw [hW3.out]
    have := (RB.new (W2.setCell ⟨b, 9, none⟩ (.slice none 0 0)) [.slice a1 (n + nx) c1] 22).alloc (.cells #[.int .i64 (hbl k)] 3)
    simpa using this
  have hBn : RB W3 (W2.heap.size + 1) 3 [.int .i64 (hbl k)] := by
    rw [hW3.out]
    have := (RB.new ((W2.setCell ⟨b, 9, none⟩ (.slice none 0 0)).alloc (.cells #[.slice a1 (n + nx) c1] 22)) [.int .i64 (hbl k)] 3)
    simpa using this
  have hs2 : Sv W3 5 1 a1 (n + nx) c1 (bv (rest ++ l)) := by rw [bv_append]; exact hO.own.toSv.mods hM3 (fun i hi e => hab (e ▸ hi))
  have ha1 : ∀ i, In a1 i → i < W2.heap.size := by rintro i ⟨ad, e, rfl⟩; exact hO.own.toSv.lt ad e
  have hrl : (rest ++ l).length = n + nx := by have := h3.len; have := hxl.out; simp [bv] at *; omega
  have hpos := hbl_pos hkd
  have hP := pcs (n + nx) (hbl k) hpos
  obtain ⟨N, hN⟩ : ∃ N, Eqn N ((n + nx + hbl k - 1) / hbl k) := ⟨_, ⟨rfl⟩⟩
  rw [← hN.out] at hP
  have hit := f97 W3 (W2.heap.size + 1) W2.heap.size (hbl k) hpos a1 (n + nx) c1 (rest ++ l) hrl hLnn hs2 hBn hBb N hP (by omega) (fun hi => by have := ha1 _ hi; omega)
  have hM03 : Mods (fun i => i = b ∨ In a i) w W3 := ((hM1.mono (fun _ _ e => .inl e)).trans' (hO.mods.mono (fun _ _ e => .inr e)) (fun _ _ e => e)).trans' (hM3.mono (fun _ _ e => .inl e)) (fun _ _ e => e)
  have hp4 : RB W3 w.heap.size 30 [.pointer (some ⟨b, 0, none⟩)] := hp2.mods hM3 (fun e => hbp e.symm)
  have hb3 : b < W2.heap.size := hr2.lt
  have hp5 : w.heap.size < W2.heap.size := hp2.lt
  have hg0 : ¬ (0 = b ∨ In a 0) := by
    rintro (e | e)
    · exact hg.ne h2 e.symm
    · exact h.glob e
  have hMl : Eqn (m ++ l).length (hbl k * (m.length / hbl k) + (n + nx)) := ⟨by
    have e1 := h1.out; have e2 := hxl.out; have e3 := Nat.mul_div_le m.length (hbl k)
    simp only [List.length_drop, List.length_append] at *
    omega⟩
  have hLd : Eqn (rest ++ l) ((m ++ l).drop (hbl k * (m.length / hbl k))) := ⟨by
    rw [hrest.out, List.drop_append_of_le_length (Nat.mul_div_le _ _)]⟩
  refine range_law (gf := 97) (N := N) (T := fun i => i = W2.heap.size) (R := fun i => i = W2.heap.size ∨ i = W2.heap.size + 1 ∨ In a1 i) rfl ?eg hit ?hT ?hR ?hargs
    (fun t A => t ≤ N ∧ hbl k * t ≤ n + nx ∧ RB A b 112 (hst k (eatN k (m ++ l) (m.length / hbl k + t)) (.slice none 0 0) (.int .u64 (m ++ l).length)) ∧ RB A w.heap.size 30 [.pointer (some ⟨b, 0, none⟩)] ∧ Mods (fun i => i = b ∨ In a i) w A)
    (fun c A => c = .ret ∧ ∃ a', WriteOut w A b a a' k (m ++ l) ∧ ∀ i, In a' i → W3.heap.size ≤ i ∧ i ≠ W3.heap.size ∧ i ≠ W3.heap.size + 1) ?hI ?hIx ?h0 ?hround ?hdone ?hstop
  case eg => exact run_enter Tryd.func97 (by kernel_rfl) rfl
  case hT => rintro i rfl; omega
  case hR =>
    rintro i (rfl | rfl | hi)
    · omega
    · omega
    · have := ha1 i hi; omega
  case hargs =>
    rintro t A args ⟨a2, c2, rfl, -⟩
    rfl
  case hI =>
    rintro t A B ⟨h5, h6, h7, h8, h9⟩ hm
    exact ⟨h5, h6, h7.mods hm (by omega), h8.mods hm (by omega), h9.trans' hm (fun i hi ht => by omega)⟩
  case hIx =>
    rintro c A B ⟨rfl, a', hw, hn⟩ hm
    exact ⟨rfl, a', ⟨hw.ho.mods hm (by omega) (fun i hi => by have := hn i hi; omega), hw.mods.trans' hm (fun i hi ht => by omega), hw.news⟩, hn⟩
  case h0 =>
    refine ⟨Nat.zero_le _, Nat.zero_le _, ?_, hp4, hM03⟩
    rw [Nat.add_zero, eatN_app _ _ _ _ (Nat.mul_div_le _ _), ← hHS.out]
    exact hr3
  case hdone =>
    rintro W ⟨h5, h6, h7, h8, h9⟩ hK
    have hNn : hbl k * N = n + nx := by
      rcases Nat.lt_or_ge (hbl k * N) (n + nx) with h | h
      · have := (hP.iff N).2 h; omega
      · omega
    have hd := div_at hpos hMl.out h6 (by omega)
    have hdr : (m ++ l).drop (hbl k * ((m ++ l).length / hbl k)) = [] := by
      rw [hd]
      apply List.drop_eq_nil_of_le
      rw [hMl.out, Nat.mul_add]; omega
    have hW : WriteOut w W b a none k (m ++ l) := by
      refine ⟨⟨hkd, ?_, hl, ⟨0, 0, ?_, ?_, ?_⟩, fun ⟨_, e, _⟩ => (by cases e), fun ⟨_, e, _⟩ => (by cases e)⟩, h9, fun i ⟨_, e, _⟩ => (by cases e)⟩
      · exact h.byt.app hb
      · rw [hdr]; rfl
      · rw [hd]; exact h7
      · rw [hdr]; exact Own.none _ _ _
    refine marks_end (R := fun e w' => e = .returned (.tuple #[]) ∧ ∃ a', WriteOut w w' b a a' k (m ++ l)) hK (results_none (fn := Tryd.f34) rfl _ _ _) ?_
    exact ⟨rfl, none, hW.shut _ (by omega) hlt (fun i ⟨_, e, _⟩ => (by cases e))⟩
  case hstop =>
    rintro c W ⟨rfl, a', hw, hn⟩ hK
    refine wp_ret ?_
    refine marks_ret (R := fun e w' => e = .returned (.tuple #[]) ∧ ∃ a', WriteOut w w' b a a' k (m ++ l)) hK (results_none (fn := Tryd.f34) rfl _ _ _) ?_
    exact ⟨rfl, a', hw.shut _ (by omega) hlt (fun i hi => (hn i hi).2.1)⟩
  case hround =>
    rintro lp t A args ht ⟨h5, h6, h7, h8, h9⟩ ⟨a2, c2, rfl, hOa, hNa, hna⟩ hlt2 hlp hdf
    obtain ⟨pl, hpl⟩ : ∃ pl, Eqn pl (piece (rest ++ l) (hbl k) t) := ⟨_, ⟨rfl⟩⟩
    obtain ⟨pn, hpn⟩ : ∃ pn, Eqn pn pl.length := ⟨_, ⟨rfl⟩⟩
    rw [← hpl.out] at hOa ⊢
    rw [← hpn.out] at hOa ⊢
    gi_wp2
    refine ⟨trivial, trivial, fun _ _ => trivial, Nat.le_refl _, fun W4 hm4 => ?_⟩
    have h74 := h7.mods hm4 (by omega)
    have h84 := h8.mods hm4 (by omega)
    have hcl : ∀ i, In a2 i → i ≠ W3.heap.size ∧ i ≠ W3.heap.size + 1 := by
      rintro i ⟨ad, e, rfl⟩
      obtain ⟨_, cur, t', fz, hb', _⟩ := hOa.toSv.cells ad e
      refine ⟨fun e2 => ?_, fun e2 => ?_⟩
      · rw [e2, hdf] at hb'; simp at hb'
      · obtain ⟨r, hlp⟩ := hlp
        rw [e2, hlp] at hb'; simp at hb'
    have hOa4 : Own W4 5 1 a2 pn c2 (bv pl) := hOa.mods hm4 (fun i hi => (hcl i hi).2)
    have hM4 : Mods (fun i => i = b ∨ In a i) w W4 := h9.trans' hm4 (fun i hi ht => by omega)
    have hg4 := hg.mods hM4 hg0
    have htn : hbl k * t < n + nx := (hP.iff t).1 ht
    have hpn2 : Eqn pn (min (hbl k) (n + nx - hbl k * t)) := ⟨by rw [hpn.out, hpl.out, piece, List.length_take, List.length_drop, hrl]⟩
    have c0 := h74.cell (i := 0) rfl
    have c1' := h84.cell (i := 0) rfl
    have c2' := h74.free 9
    have c9' : W4.cell? ⟨b, 9, none⟩ = some (.slice none 0 0) := h74.cell (by simp [hst, length_eatN])
    by_cases hsh : pn < hbl k
    · gi_wp2_with (refine ⟨trivial, rfl, (CallsIn.inRound lp (callsIn_wide.2 (f29 k _))).mono ?_⟩; rintro e w' ⟨rfl, rfl⟩)
      have hd := div_at hpos hMl.out (Nat.le_of_lt htn) (by have := hpn2.out; omega)
      have hab2 : ¬ In a2 b := fun ⟨ad, e, hb'⟩ => by have := hNa ad e; omega
      have hpd : pl = (m ++ l).drop (hbl k * ((m ++ l).length / hbl k)) := by
        rw [hpl.out, hLd.out, piece_drop, hd, piece, List.take_of_length_le]
        have := hpn2.out
        rw [List.length_drop, hMl.out, Nat.mul_add]; omega
      have hM5 := (Mods.refl (fun i => i = b) W4).setCell (p := ⟨b, 9, none⟩) (.inl rfl) (.slice a2 pn c2)
      refine ⟨hM5.block _ (by have := hm4.size; omega) (by omega), hM5.block _ (by have := hm4.size; omega) (by omega), rfl, a2, ⟨⟨hkd, h.byt.app hb, hl, ⟨pn, c2, by rw [← hpd]; exact hpn.out, ?_, ?_⟩, hab2, ?_⟩, hM4.setCell (.inl (.inl rfl)) _, fun i ⟨ad, e, hb'⟩ => .inr (by have := hNa ad e; omega)⟩, fun i hi => ⟨?_, hcl i hi⟩⟩
      · rw [hd]
        have h10 := h74.set 9 (.slice a2 pn c2)
        obtain ⟨x0, x1, x2, x3, x4, x5, x6, x7, hE⟩ := eight (eatN k (m ++ l) (m.length / hbl k + t)) (length_eatN _ _ _)
        rw [hE] at h10 ⊢
        exact h10
      · rw [← hpd]
        exact hOa4.mods hM5 (fun i hi e => hab2 (e ▸ hi))
      · rintro ⟨ad, e, hb'⟩; have := hNa ad e; omega
      · obtain ⟨ad, e, rfl⟩ := hi; exact hNa ad e
    · obtain rfl : pn = hbl k := by have := hpn2.out; omega
      gi_wp2_with (refine ⟨trivial, rfl, (CallsIn.inRound lp (callsIn_wide.2 (f29 k _))).mono ?_⟩; rintro e w' ⟨rfl, rfl⟩)
      have hBp : Byt pl := by
        rw [hpl.out, hLd.out]
        exact ((h.byt.app hb).drop _).sub _ _
      refine ⟨trivial, rfl, (CallsIn.inRound lp (callsIn_wide.2 (f94 b k hkd _ _ _ (length_eatN _ _ _) pl hpn.out.symm hBp a2 c2 _ hOa4.toSv h74 hg4))).mono ?_⟩
      rintro e W5 ⟨rfl, h10, h11⟩
      gi_wp2
      refine ⟨h11.block _ (by have := hm4.size; omega) (by omega), h11.block _ (by have := hm4.size; omega) (by omega), fun i hi => h11.block i ?_ ?_, h11.size, ht, ?_, ?_, h84.mods h11 (by omega), hM4.trans' h11 (fun i hi e => .inl e)⟩
      · have := hm4.size
        rcases hi with rfl | rfl | hi
        · omega
        · omega
        · have := ha1 i hi; omega
      · rcases hi with rfl | rfl | hi
        · omega
        · omega
        · exact fun e => hab (e ▸ hi)
      · rw [Nat.mul_add]; have := hpn2.out; omega
      · rw [hpl.out, hLd.out, piece_drop] at h10
        exact h10
end Go.Proofs.YtladijfaeieidaaDoor
