/- Contracts: the pieces of a slice as an iterator (hashes.Chunks and its closure). Conditions: at least one byte a piece; a length that an append may come to. -/
import Derived.Test.YtladijfaeieidaaDoorR
import Derived.Test.YtladijfaeieidaaDoorC3

namespace Go.Proofs.YtladijfaeieidaaDoor
open Go.RowKit Go.Shelf
attribute [local go_sem] Oper.semAt_some

theorem f37 (a : Option Addr) (n c : Nat) (k : Int) (w : World) :
    Calls Tryd.prog 37 #[.slice a n c, .int .i64 k] w fun e w' => e = .returned (.func (.func 97) #[] #[.pointer (some ⟨w.heap.size + 1, 0, none⟩), .pointer (some ⟨w.heap.size, 0, none⟩)]) ∧
      (w.alloc (.cells #[.slice a n c] 22)).alloc (.cells #[.int .i64 k] 3) = w' := by
  go_enter Tryd.func37, Tryd.ntmps37
  go_wp2_with fail
  go_ret
  exact ⟨rfl, rfl⟩

/-- Piece number k of l. -/
def piece (l : List Int) (m k : Nat) : List Int := (l.drop (m * k)).take m
/-- What the pieces' loop hands over in round k. -/
structure PieceArg (B : Nat) (l : List Int) (m k : Nat) (A : World) (args : Array Value) : Prop where
  ex : ∃ a c, args = #[.int .i64 k, .slice a (piece l m k).length c] ∧ Own A 5 1 a (piece l m k).length c (bv (piece l m k)) ∧ New B a ∧ a ≠ none

/-- N pieces of m make n. -/
structure Pcs (n m N : Nat) : Prop where
  iff : ∀ k, k < N ↔ m * k < n
theorem pcs (n m : Nat) (hm : 0 < m) : Pcs n m ((n + m - 1) / m) := ⟨fun k => by
  rw [Nat.lt_iff_add_one_le, Nat.le_div_iff_mul_le hm, Nat.mul_comm (k + 1) m, Nat.mul_add]
  omega⟩
theorem Pcs.le {n m N : Nat} (h : Pcs n m N) : N ≤ n := by
  rcases Nat.lt_or_ge n N with h1 | h1
  · have := (h.iff n).1 h1
    rcases Nat.eq_zero_or_pos m with rfl | hm
    · have := (h.iff N).2 (by omega); omega
    · have := Nat.le_mul_of_pos_left n hm; omega
  · exact h1
theorem Sv.from {w : World} {t : Nat} {a : Option Addr} {n c : Nat} {xs : List Value} (h : Sv w t 1 a n c xs) (m : Nat) (hm : m ≤ n) : Sv w t 1 (if c = m then a else Option.map (fun x => x.add m) a) (n - m) (c - m) (xs.drop m) := by
  have := h.sub m n c hm (Nat.le_refl _) h.le (Nat.le_refl _)
  simp only [Nat.mul_one] at this
  rwa [List.take_of_length_le (by rw [List.length_drop, h.len]; omega)] at this
theorem from_in {a : Option Addr} {m c k : Nat} (h : In (if c = m then a else Option.map (fun x => x.add m) a) k) : In a k := by
  have := sub_in (a := a) (lo := m) (m := c) (sz := 1) (k := k)
  simp only [Nat.mul_one] at this
  exact this h
theorem Sv.front {w : World} {t : Nat} {a : Option Addr} {n c : Nat} {xs : List Value} (h : Sv w t 1 a n c xs) (m : Nat) (hm : m ≤ n) : Sv w t 1 a m c (xs.take m) :=
  { len := by rw [List.length_take, h.len]; omega, le := by have := h.le; omega, cap := h.cap, nil := h.nil
    cells := fun ad e => by
      obtain ⟨q, cur, t', fz, hb, hx⟩ := h.cells ad e
      refine ⟨q, cur, t', fz, hb, fun i u hu => hx i u ?_⟩
      have := (List.getElem?_eq_some_iff.1 hu).1
      rw [List.length_take] at this
      rwa [List.getElem?_take_of_lt (by omega)] at hu }
theorem wrap_up {k : Nat} (h : k < 140737488355328) : wrap64 ((k : Int) + 1) = ((k + 1 : Nat) : Int) := by
  unfold wrap64; omega
theorem piece_short (l : List Int) (m k n n' : Nat) (hl : l.length = n) (hn : Eqn n' (n - m * k)) (h : n' < m) : piece l m k = (l.drop (m * k)).take n' := by
  have := hn.out
  rw [piece, List.take_of_length_le (by simp; omega), List.take_of_length_le (by simp; omega)]
theorem down_one {k N : Nat} (h : k < N) : N - (intOf (.int .i64 ((k + 1 : Nat) : Int))).toNat < N - (intOf (.int .i64 (k : Int))).toNat := by
  simp [intOf]; omega
set_option maxHeartbeats 2000000 in
theorem f97 (w : World) (Bn Bb m : Nat) (hm : 0 < m) (a : Option Addr) (n c : Nat) (l : List Int) (hl : l.length = n) (hn : Lim n) (hs : Sv w 5 1 a n c (bv l)) (hBn : RB w Bn 3 [.int .i64 m]) (hBb : RB w Bb 22 [.slice a n c])
    (N : Nat) (hN : Pcs n m N) (h1 : Bn ≠ Bb) (h2 : ¬ In a Bb) :
    Iter Tryd.prog 97 #[.pointer (some ⟨Bn, 0, none⟩), .pointer (some ⟨Bb, 0, none⟩)] w N (PieceArg w.heap.size l m) (fun k => k = Bb) (fun k => k = Bb ∨ k = Bn ∨ In a k) := by
  intro L J Jx W hW hWs hJ hJx hY h0
  refine (callsIn_wide (n := 1)).1 (callsIn_of_wp Tryd.func97 rfl trivial ?_ rfl)
  simp only [Tryd.ntmps97, List.size_toArray, List.length_cons, List.length_nil, Nat.reduceAdd, Nat.reduceSub, Array.replicate_succ, Array.replicate_zero, List.push_toArray, List.append_toArray, List.nil_append, List.cons_append]
  have hb1 := hBn.lt
  have hb2 := hBb.lt
  have e1 : W.cell? ⟨Bn, 0, none⟩ = some (.int .i64 m) := (RB.mk ((hW _ hb1).trans hBn.heap)).cell rfl
  have e2 : W.cell? ⟨Bb, 0, none⟩ = some (.slice a n c) := (RB.mk ((hW _ hb2).trans hBb.heap)).cell rfl
  have hs0 : Sv W 5 1 a n c (bv l) := ⟨hs.len, hs.le, hs.cap, hs.nil, fun ad e => by
    obtain ⟨q, cur, t', fz, hb, r⟩ := hs.cells ad e
    exact ⟨q, cur, t', fz, (hW _ (lt_heap hb)).trans hb, r⟩⟩
  gi_wp2
  gi_loopw [4] (fun i wr => ∃ (k n' c' : Nat) (a' : Option Addr), i = .int .i64 k ∧ k ≤ N ∧ Eqn n' (n - m * k) ∧ RB wr Bn 3 [.int .i64 m] ∧ RB wr Bb 22 [.slice a' n' c'] ∧ Sv wr 5 1 a' n' c' (bv (l.drop (m * k))) ∧ (∀ q, In a' q → In a q) ∧ J k wr ∧ w.heap.size ≤ wr.heap.size) (fun i wr => N - (intOf i).toNat)
  case atStart => 
    exact ⟨0, n, c, a, rfl, Nat.zero_le _, ⟨by simp⟩, ⟨(hW _ hb1).trans hBn.heap⟩, ⟨(hW _ hb2).trans hBb.heap⟩, by simpa using hs0, fun _ h => h, h0, hWs⟩
  case round =>
    obtain ⟨k, n', c', a', rfl, hk, hn', hbn, hbb, hsv, hin, hJk, hws⟩ := hrel
    have d1 : wr.cell? ⟨Bn, 0, none⟩ = some (.int .i64 m) := hbn.cell rfl
    have d2 : wr.cell? ⟨Bb, 0, none⟩ = some (.slice a' n' c') := hbb.cell rfl
    have d3 := hbb.free 0
    by_cases h0 : n' = 0
    · subst h0
      gi_wp2
      go_end0
      have hkN : k = N := by
        have := (hN.iff k)
        have h3 := hn'.out
        omega
      subst hkN
      exact ⟨⟨_, rfl⟩, .inl hJk⟩
    · have hpos : 0 < n' := by omega
      have hn3 := hn'.out
      have hkN : k < N := (hN.iff k).2 (by omega)
      have hnl : n' ≤ n := by omega
      clear hn3
      have hle := hsv.le
      have hnn : n' ≤ c' := hsv.le
      have Hwk : Eqn (wrap64 ((k : Int) + 1)) ((k + 1 : Nat) : Int) := ⟨wrap_up (k := k) (by have := hN.le; have := hn.le; omega)⟩
      by_cases hmn : m ≤ n'
      · have hsub : Sv wr 5 1 a' m c' (bv (piece l m k)) := by
          have := hsv.front m hmn
          rwa [bv_take] at this
        have Hpl : Eqn (piece l m k).length m := ⟨by have := hn'.out; simp [piece, hl]; omega⟩
        have hmc : m ≤ c' := by omega
        gi_wp2
        refine ⟨trivial, callsIn_wide.2 ((f93 hsub (hn.of (by omega))).mono ?_)⟩
        rintro e w1 ⟨a2, c2, rfl, hO, hnew, hM, hnil⟩
        have hbn1 := hbn.mods hM (fun f => f)
        have hbb1 := hbb.mods hM (fun f => f)
        have hsv1 := hsv.mods hM (fun _ _ f => f)
        have g1 : w1.cell? ⟨Bn, 0, none⟩ = some (.int .i64 m) := hbn1.cell rfl
        have g2 : w1.cell? ⟨Bb, 0, none⟩ = some (.slice a' n' c') := hbb1.cell rfl
        have g3 := hbb1.free 0
        obtain ⟨fn, tmps, assign, body, hy, hR⟩ := hY k w1 #[.int .i64 k, .slice a2 m c2] hkN (hJ k wr w1 hJk (hM.mono (fun _ _ f => f.elim))) ⟨⟨a2, c2, by rw [Hpl.out], by rw [Hpl.out]; exact hO, hnew.mono hws, by rw [Ne, hnil]; exact (fun e => by have := hsv.nil e; omega)⟩⟩
        gi_wp2
        refine hR.mono ?_
        rintro e W' (⟨rfl, hJ2, hkeep, hsz1⟩ | ⟨rfl, hJx2⟩)
        · have b1 : RB W' Bn 3 [.int .i64 m] := ⟨(hkeep Bn (.inr (.inl rfl))).trans hbn1.heap⟩
          have b2 : RB W' Bb 22 [.slice a' n' c'] := ⟨(hkeep Bb (.inl rfl)).trans hbb1.heap⟩
          have b3 : Sv W' 5 1 a' n' c' (bv (l.drop (m * k))) := ⟨hsv1.len, hsv1.le, hsv1.cap, hsv1.nil, fun ad e => by
            obtain ⟨z, cur, t', fz, hb, r⟩ := hsv1.cells ad e
            exact ⟨z, cur, t', fz, (hkeep _ (.inr (.inr (hin _ ⟨ad, e, rfl⟩)))).trans hb, r⟩⟩
          have k1 : W'.cell? ⟨Bn, 0, none⟩ = some (.int .i64 m) := b1.cell rfl
          have k2 : W'.cell? ⟨Bb, 0, none⟩ = some (.slice a' n' c') := b2.cell rfl
          have k3 := b2.free 0
          have hsz : w.heap.size ≤ W'.heap.size := Nat.le_trans hws (Nat.le_trans hM.size hsz1)
          gi_wp2
          refine ⟨⟨k + 1, _, _, _, ?_, hkN, ?_, b1.other _ h1, b2.set 0 _, ?_, fun z hz => hin z (from_in hz), hJ _ _ _ hJ2 ((Mods.refl (fun k => k = Bb) W').setCell (.inl rfl) _), by simpa using hsz⟩, ?_⟩
          · rw [Hwk.out]
          · exact ⟨by have := hn'.out; rw [Nat.mul_add]; omega⟩
          · have b4 := (b3.from m (by omega)).mods ((Mods.refl (fun k => k = Bb) W').setCell (p := ⟨Bb, 0, none⟩) (.inl rfl) (.slice (if c' = m then a' else Option.map (fun x => x.add m) a') (n' - m) (c' - m))) (fun z hz e => h2 (e ▸ hin z (from_in hz)))
            rw [bv_drop, List.drop_drop, show m * k + m = m * (k + 1) from by rw [Nat.mul_add]; omega] at b4
            exact b4
          · rw [Hwk.out]; exact down_one hkN
        · gi_wp2
          exact bodyPost_ret (results_none rfl _ _ _) rfl ⟨⟨_, rfl⟩, .inr hJx2⟩
      · have hsub : Sv wr 5 1 a' n' c' (bv (piece l m k)) := by
          have := hsv.front n' (Nat.le_refl _)
          rwa [bv_take, ← piece_short l m k n n' hl hn' (by omega)] at this
        have Hpl : Eqn (piece l m k).length n' := ⟨by have := hn'.out; simp [piece, hl]; omega⟩
        gi_wp2
        refine ⟨trivial, callsIn_wide.2 ((f93 hsub (hn.of (by omega))).mono ?_)⟩
        rintro e w1 ⟨a2, c2, rfl, hO, hnew, hM, hnil⟩
        have hbn1 := hbn.mods hM (fun f => f)
        have hbb1 := hbb.mods hM (fun f => f)
        have hsv1 := hsv.mods hM (fun _ _ f => f)
        have g1 : w1.cell? ⟨Bn, 0, none⟩ = some (.int .i64 m) := hbn1.cell rfl
        have g2 : w1.cell? ⟨Bb, 0, none⟩ = some (.slice a' n' c') := hbb1.cell rfl
        have g3 := hbb1.free 0
        obtain ⟨fn, tmps, assign, body, hy, hR⟩ := hY k w1 #[.int .i64 k, .slice a2 n' c2] hkN (hJ k wr w1 hJk (hM.mono (fun _ _ f => f.elim))) ⟨⟨a2, c2, by rw [Hpl.out], by rw [Hpl.out]; exact hO, hnew.mono hws, by rw [Ne, hnil]; exact (fun e => by have := hsv.nil e; omega)⟩⟩
        gi_wp2
        refine hR.mono ?_
        rintro e W' (⟨rfl, hJ2, hkeep, hsz1⟩ | ⟨rfl, hJx2⟩)
        · have b1 : RB W' Bn 3 [.int .i64 m] := ⟨(hkeep Bn (.inr (.inl rfl))).trans hbn1.heap⟩
          have b2 : RB W' Bb 22 [.slice a' n' c'] := ⟨(hkeep Bb (.inl rfl)).trans hbb1.heap⟩
          have b3 : Sv W' 5 1 a' n' c' (bv (l.drop (m * k))) := ⟨hsv1.len, hsv1.le, hsv1.cap, hsv1.nil, fun ad e => by
            obtain ⟨z, cur, t', fz, hb, r⟩ := hsv1.cells ad e
            exact ⟨z, cur, t', fz, (hkeep _ (.inr (.inr (hin _ ⟨ad, e, rfl⟩)))).trans hb, r⟩⟩
          have k1 : W'.cell? ⟨Bn, 0, none⟩ = some (.int .i64 m) := b1.cell rfl
          have k2 : W'.cell? ⟨Bb, 0, none⟩ = some (.slice a' n' c') := b2.cell rfl
          have k3 := b2.free 0
          have hsz : w.heap.size ≤ W'.heap.size := Nat.le_trans hws (Nat.le_trans hM.size hsz1)
          gi_wp2
          refine ⟨⟨k + 1, _, _, _, ?_, hkN, ?_, b1.other _ h1, b2.set 0 _, ?_, fun z hz => hin z (from_in hz), hJ _ _ _ hJ2 ((Mods.refl (fun k => k = Bb) W').setCell (.inl rfl) _), by simpa using hsz⟩, ?_⟩
          · rw [Hwk.out]
          · exact ⟨by have := hn'.out; rw [Nat.mul_add]; omega⟩
          · have b4 := (b3.from n' (by omega)).mods ((Mods.refl (fun k => k = Bb) W').setCell (p := ⟨Bb, 0, none⟩) (.inl rfl) (.slice (if c' = n' then a' else Option.map (fun x => x.add n') a') (n' - n') (c' - n'))) (fun z hz e => h2 (e ▸ hin z (from_in hz)))
            have e9 : (bv (l.drop (m * k))).drop n' = bv (l.drop (m * (k + 1))) := by
              have := hn'.out
              rw [List.drop_eq_nil_of_le (by simp [bv, hl]; omega), List.drop_eq_nil_of_le (by rw [hl, Nat.mul_add]; omega)]; rfl
            rw [e9, Nat.sub_self] at b4
            exact b4
          · rw [Hwk.out]; exact down_one hkN
        · gi_wp2
          exact bodyPost_ret (results_none rfl _ _ _) rfl ⟨⟨_, rfl⟩, .inr hJx2⟩
end Go.Proofs.YtladijfaeieidaaDoor
