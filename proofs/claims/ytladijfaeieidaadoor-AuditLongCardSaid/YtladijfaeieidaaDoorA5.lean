/- Contracts: the audit's lines (an iterator). Conditions: lengths that an append may come to. -/
import Derived.Test.YtladijfaeieidaaDoorA4
import Derived.Test.YtladijfaeieidaaDoorC4
import Derived.Test.YtladijfaeieidaaDoorD10
namespace Go.Proofs.YtladijfaeieidaaDoor
open Go.RowKit Go.Shelf
attribute [local go_sem] Oper.semAt_some

/-- What a line ought to be. -/
def wantOf (l : List Int) (k : Nat) : List Int :=
  lineOf (headOf (l.take (52 * k))) k (timeOf (piece l 52 k)) (be (((piece l 52 k).drop 12).take 2)) (be (((piece l 52 k).drop 14).take 4)) (be (((piece l 52 k).drop 18).take 2))
theorem f103 (a : Option Addr) (n c : Nat) (w : World) :
    Calls Tryd.prog 103 #[.slice a n c] w fun e w' => e = .returned (.func (.func 138) #[] #[.pointer (some ⟨w.heap.size, 0, none⟩)]) ∧ w.alloc (.cells #[.slice a n c] 22) = w' := by
  go_enter Tryd.func103, Tryd.ntmps103
  go_wp2_with fail
  go_ret
  exact ⟨rfl, rfl⟩
/-- A slice's part, in whatever world. -/
theorem sub_facts {a : Option Addr} {n c : Nat} (lo hi : Nat) (L X : Int) (hL : L = (lo : Int)) (hX : X = (hi : Int)) (h1 : lo ≤ hi) (h2 : hi ≤ n) (h3 : n ≤ c) :
    ∃ a', (∀ w, (Instr.sliceAt 22 (.slice a n c) (some (.int .i64 L)) (some (.int .i64 X)) none).run Tryd.prog w = .ok (.slice a' (hi - lo) (c - lo)) w) ∧ (∀ w l, Sv w 5 1 a n c (bv l) → Sv w 5 1 a' (hi - lo) (c - lo) (bv ((l.drop lo).take (hi - lo)))) ∧ ∀ k, In a' k → In a k := by
  subst hL
  subst hX
  have h4 : hi ≤ c := by omega
  refine ⟨_, fun w => run_slice_gen (P := Tryd.prog) w ei22 a n c lo hi c _ _ _ (by simp [Instr.sliceBounds, Instr.sliceBound, asIntOf, h4, h1]), fun w l h => ?_, fun k hk => sub_in hk⟩
  have := h.sub lo hi c h1 h2 h4 (Nat.le_refl _)
  simpa [bv_drop, bv_take] using this
/-- A slice's front, in whatever world. -/
theorem sub_front {a : Option Addr} {n c : Nat} (hi : Nat) (X : Int) (hX : X = (hi : Int)) (h2 : hi ≤ n) (h3 : n ≤ c) :
    ∃ a', (∀ w, (Instr.sliceAt 22 (.slice a n c) none (some (.int .i64 X)) none).run Tryd.prog w = .ok (.slice a' hi c) w) ∧ (∀ w l, Sv w 5 1 a n c (bv l) → Sv w 5 1 a' hi c (bv (l.take hi))) ∧ ∀ k, In a' k → In a k := by
  subst hX
  have h4 : hi ≤ c := by omega
  refine ⟨_, fun w => run_slice_gen (P := Tryd.prog) w ei22 a n c 0 hi c _ _ _ (bounds_to n c hi h2 h3 _ _), fun w l h => ?_, fun k hk => sub_in hk⟩
  have := h.sub 0 hi c (Nat.zero_le _) h2 h4 (Nat.le_refl _)
  simpa [bv_drop, bv_take] using this
/-- A slice from a place on, in whatever world. -/
theorem sub_from {a : Option Addr} {n c : Nat} (lo : Nat) (L : Int) (hL : L = (lo : Int)) (h2 : lo ≤ n) (h3 : n ≤ c) :
    ∃ a', (∀ w, (Instr.sliceAt 22 (.slice a n c) (some (.int .i64 L)) none none).run Tryd.prog w = .ok (.slice a' (n - lo) (c - lo)) w) ∧ (∀ w l, Sv w 5 1 a n c (bv l) → Sv w 5 1 a' (n - lo) (c - lo) (bv (l.drop lo))) ∧ ∀ k, In a' k → In a k := by
  refine ⟨_, fun w => run_slice_gen (P := Tryd.prog) w ei22 a n c lo n c _ _ _ (bounds_from n c lo L hL h2 h3 _ _), fun w l h => ?_, fun k hk => sub_in hk⟩
  have h8 := h.sub lo n c h2 (Nat.le_refl _) h3 (Nat.le_refl _)
  have hl : l.length = n := by have := h.len; simpa [bv] using this
  have e : (l.drop lo).take (n - lo) = l.drop lo := List.take_of_length_le (by simp [hl])
  rw [Nat.mul_one (n - lo), bv_drop, bv_take] at h8
  simp only [Nat.mul_one] at h8 ⊢
  rw [e] at h8
  exact h8
/-- What the loop over lines is handed. -/
structure LineArg (l : List Int) (k : Nat) (A : World) (args : Array Value) : Prop where
  ex : ∃ g o c1 a2 c2, args = #[.slice (some ⟨g, o, none⟩) 52 c1, .slice a2 52 c2] ∧ Sv A 5 1 (some ⟨g, o, none⟩) 52 c1 (bv (piece l 52 k)) ∧ Sv A 5 1 a2 52 c2 (bv (wantOf l k))
set_option maxRecDepth 100000 in
set_option maxHeartbeats 4000000 in
theorem f138 (w : World) (hg : GK w) (Bb : Nat) (a : Option Addr) (n c : Nat) (l : List Int) (hl : l.length = n) (hn : n ≤ 100000) (hB : Byt l) (hs : Sv w 5 1 a n c (bv l)) (hBb : RB w Bb 22 [.slice a n c]) :
    Iter Tryd.prog 138 #[.pointer (some ⟨Bb, 0, none⟩)] w (n / 52) (LineArg l) (fun _ => False) (fun k => k = Bb ∨ In a k ∨ k = 0) := by
  intro L J Jx W hW hWs hJ hJx hY h0
  refine (callsIn_wide (n := 1)).1 (callsIn_of_wp Tryd.func138 rfl trivial ?_ rfl)
  simp only [Tryd.ntmps138, List.size_toArray, List.length_cons, List.length_nil, Nat.reduceAdd, Nat.reduceSub, Array.replicate_succ, Array.replicate_zero, List.push_toArray, List.append_toArray, List.nil_append, List.cons_append]
  have hb2 := hBb.lt
  obtain ⟨N, hN⟩ : ∃ N, Eqn N (n / 52) := ⟨_, ⟨rfl⟩⟩
  rw [← hN.out] at hY ⊢
  have hs0 : Sv W 5 1 a n c (bv l) := ⟨hs.len, hs.le, hs.cap, hs.nil, fun ad e => by
    obtain ⟨q, cur, t', fz, hb, r⟩ := hs.cells ad e
    exact ⟨q, cur, t', fz, (hW _ (lt_heap hb)).trans hb, r⟩⟩
  have hg0 : GK W := ⟨fun i hi => by
    have h1 := hg.cell i hi
    rwa [← World.cell?_of_block (a := ⟨0, i, none⟩) (hW 0 hg.lt)] at h1⟩
  have hnN : 52 * N ≤ n := by rw [hN.out]; omega
  have hnN2 : n < 52 * N + 52 := by rw [hN.out]; omega
  have hcap := hs.le
  gi_wp2
  gi_loopw [3] (fun i wr => ∃ (k : Nat), i = .int .i64 k ∧ k ≤ N ∧ RB wr Bb 22 [.slice a n c] ∧ Sv wr 5 1 a n c (bv l) ∧ GK wr ∧ J k wr) (fun i wr => N - (intOf i).toNat)
  case atStart => 
    exact ⟨0, rfl, Nat.zero_le _, ⟨(hW _ hb2).trans hBb.heap⟩, hs0, hg0, h0⟩
  case round =>
    obtain ⟨k, rfl, hk, hbb, hsv, hgr, hJk⟩ := hrel
    have d2 : wr.cell? ⟨Bb, 0, none⟩ = some (.slice a n c) := hbb.cell rfl
    by_cases hkN : k < N
    · obtain ⟨lo, hlo⟩ : ∃ lo, Eqn lo (52 * k) := ⟨_, ⟨rfl⟩⟩
      obtain ⟨hi, hhi⟩ : ∃ hi, Eqn hi (52 * k + 52) := ⟨_, ⟨rfl⟩⟩
      have q1 : lo ≤ hi := by rw [hlo.out, hhi.out]; omega
      have q2 : hi ≤ n := by rw [hhi.out]; omega
      have q3 : hi - lo = 52 := by rw [hlo.out, hhi.out]; omega
      obtain ⟨a1, ks1, kv1, -⟩ := sub_facts (a := a) (n := n) (c := c) lo hi (52 * (k : Int)) (52 * ((k : Int) + 1)) (by rw [hlo.out]; omega) (by rw [hhi.out]; omega) q1 q2 hcap
      rw [q3] at ks1 kv1
      obtain ⟨a2, ks2, kv2, -⟩ := sub_front (a := a) (n := n) (c := c) lo (52 * (k : Int)) (by rw [hlo.out]; omega) (Nat.le_trans q1 q2) hcap
      have hp1 := kv1 wr l hsv
      have hp2 := kv2 wr l hsv
      obtain ⟨g, o, rfl⟩ := hp1.addr (by omega)
      obtain ⟨p, hp⟩ : ∃ p, Eqn p (piece l 52 k) := ⟨_, ⟨rfl⟩⟩
      have hp' : (l.drop lo).take 52 = p := by rw [hp.out, piece, hlo.out]
      rw [hp'] at hp1
      have hBp : Byt p := by rw [← hp']; exact hB.sub _ _
      obtain ⟨cl, hcl⟩ : ∃ cl, Eqn cl (c - lo) := ⟨_, ⟨rfl⟩⟩
      rw [← hcl.out] at hp1 ks1
      have t1 : ¬ (n : Int) < 52 * ((k : Int) + 1) := by omega
      have T47 := f47 wr a2 lo c _ hp2 ⟨by omega⟩
      have hBf : Byt (headOf (l.take lo)) := byt_headOf (hB.take _)
      have hW : Eqn (wantOf l k) (lineOf (headOf (l.take lo)) k (timeOf p) (be ((p.drop 12).take 2)) (be ((p.drop 14).take 4)) (be ((p.drop 18).take 2))) := ⟨by rw [wantOf, ← hp.out, hlo.out]⟩
      obtain ⟨v1, hv1⟩ : ∃ v, Eqn v (be (p.take 4)) := ⟨_, ⟨rfl⟩⟩
      obtain ⟨v2, hv2⟩ : ∃ v, Eqn v (timeOf p) := ⟨_, ⟨rfl⟩⟩
      obtain ⟨v3, hv3⟩ : ∃ v, Eqn v (be ((p.drop 12).take 2)) := ⟨_, ⟨rfl⟩⟩
      obtain ⟨v4, hv4⟩ : ∃ v, Eqn v (be ((p.drop 14).take 4)) := ⟨_, ⟨rfl⟩⟩
      obtain ⟨v5, hv5⟩ : ∃ v, Eqn v (be ((p.drop 18).take 2)) := ⟨_, ⟨rfl⟩⟩
      have hE : Eqn (entOf p) (.agg #[.int .i64 v1, .int .i64 v2, .int .i64 v3, .int .i64 v4, .int .i64 v5]) := ⟨by rw [hv1.out, hv2.out, hv3.out, hv4.out, hv5.out]; rfl⟩
      rw [← hv2.out, ← hv3.out, ← hv4.out, ← hv5.out] at hW
      clear hp' q1 q2 q3 kv1 kv2 hv1 hv2 hv3 hv4 hv5
      gi_wp2
      refine ⟨trivial, callsIn_wide.2 (T47.mono ?_)⟩
      rintro e w1 ⟨a3, c3, rfl, hS3⟩
      have T106 := f106 w1 g o 52 cl p (hp1.mods hS3.mods (fun _ _ f => f)) (by omega) hBp
      rw [hE.out] at T106
      gi_wp2
      refine ⟨trivial, callsIn_wide.2 (T106.mono ?_)⟩
      rintro e w2 ⟨rfl, hM2⟩
      have hM02 := hS3.mods.trans' hM2 (fun _ _ f => f)
      have T101 := f101 w2 a3 32 c3 _ (hS3.own.toSv.mods hM2 (fun _ _ f => f)) hBf (by omega) (hgr.mods hM02 (fun f => f)) k v1 v2 v3 v4 v5
      gi_wp2
      refine ⟨trivial, callsIn_wide.2 (T101.mono ?_)⟩
      rintro e w3 ⟨a4, c4, rfl, hS4⟩
      have hM03 := hM02.trans' hS4.mods (fun _ _ f => f)
      rw [← hW.out] at hS4
      obtain ⟨fn, tmps, assign, body, hy, hR⟩ := hY k w3 #[.slice (some ⟨g, o, none⟩) 52 cl, .slice a4 52 c4] hkN (hJ k wr w3 hJk hM03) ⟨⟨g, o, cl, a4, c4, rfl, by rw [← hp.out]; exact hp1.mods hM03 (fun _ _ f => f), hS4.own.toSv⟩⟩
      have hbb3 := hbb.mods hM03 (fun f => f)
      have hsv3 := hsv.mods hM03 (fun _ _ f => f)
      have hgr3 := hgr.mods hM03 (fun f => f)
      gi_wp2
      refine hR.mono ?_
      rintro e W' (⟨rfl, hJ2, hkeep, hsz1⟩ | ⟨rfl, hJx2⟩)
      · have b2 : RB W' Bb 22 [.slice a n c] := ⟨(hkeep Bb (.inl rfl)).trans hbb3.heap⟩
        have b3 : Sv W' 5 1 a n c (bv l) := ⟨hsv3.len, hsv3.le, hsv3.cap, hsv3.nil, fun ad e => by
          obtain ⟨z, cur, t', fz, hb, r⟩ := hsv3.cells ad e
          exact ⟨z, cur, t', fz, (hkeep _ (.inr (.inl ⟨ad, e, rfl⟩))).trans hb, r⟩⟩
        have b4 : GK W' := ⟨fun i hi => by
          have h1 := hgr3.cell i hi
          rwa [← World.cell?_of_block (a := ⟨0, i, none⟩) (hkeep 0 (.inr (.inr rfl)))] at h1⟩
        gi_wp2
        refine ⟨⟨k + 1, ?_, hkN, b2, b3, b4, hJ2⟩, ?_⟩
        · go_num
        · have : ((k : Int) + 1) = ((k + 1 : Nat) : Int) := by omega
          rw [this]; exact down_one hkN
      · gi_wp2
        exact bodyPost_ret (results_none rfl _ _ _) rfl ⟨⟨_, rfl⟩, .inr hJx2⟩
    · have t1 : (n : Int) < 52 * ((k : Int) + 1) := by omega
      gi_wp2
      go_end0
      obtain rfl : k = N := by omega
      exact ⟨⟨_, rfl⟩, .inl hJk⟩
end Go.Proofs.YtladijfaeieidaaDoor
