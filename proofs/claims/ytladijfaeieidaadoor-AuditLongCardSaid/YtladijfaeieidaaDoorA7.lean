/- Contracts: the audit's All (an iterator). Conditions: lengths that an append may come to. -/
import Derived.Test.YtladijfaeieidaaDoorA6
namespace Go.Proofs.YtladijfaeieidaaDoor
open Go.RowKit Go.Shelf
attribute [local go_sem] Oper.semAt_some

theorem Cnt.uniq {l : List Int} {m m' : Nat} (h : Cnt l m) (h' : Cnt l m') : m = m' := by
  rcases Nat.lt_trichotomy m m' with hl | he | hl
  · have h1 := h'.good m hl
    have h2 := h.stop (Nat.lt_of_lt_of_le hl h'.le)
    rw [h1] at h2; cases h2
  · exact he
  · have h1 := h.good m' hl
    have h2 := h'.stop (Nat.lt_of_lt_of_le hl h.le)
    rw [h1] at h2; cases h2
theorem f50 (a : Option Addr) (n c : Nat) (w : World) :
    Calls Tryd.prog 50 #[.slice a n c] w fun e w' => e = .returned (.func (.func 105) #[] #[.pointer (some ⟨w.heap.size, 0, none⟩)]) ∧ w.alloc (.cells #[.slice a n c] 22) = w' := by
  go_enter Tryd.func50, Tryd.ntmps50
  go_wp2_with fail
  go_ret
  exact ⟨rfl, rfl⟩
/-- What the loop over entries is handed. -/
structure EntArg (l : List Int) (k : Nat) (_A : World) (args : Array Value) : Prop where
  ex : args = #[.int .i64 k, entOf (l.drop (52 * k))]
set_option maxRecDepth 100000 in
set_option maxHeartbeats 4000000 in
theorem f105 (w : World) (hg : GK w) (Bb : Nat) (a : Option Addr) (n c : Nat) (l : List Int) (hl : l.length = n) (hn : n ≤ 100000) (hB : Byt l) (hs : Sv w 5 1 a n c (bv l)) (hBb : RB w Bb 22 [.slice a n c]) (m : Nat) (hm : Cnt l m) :
    Iter Tryd.prog 105 #[.pointer (some ⟨Bb, 0, none⟩)] w m (EntArg l) (fun _ => False) (fun k => k = Bb ∨ In a k) := by
  intro L J Jx W hW hWs hJ hJx hY h0
  refine (callsIn_wide (n := 1)).1 (callsIn_of_wp Tryd.func105 rfl trivial ?_ rfl)
  simp only [Tryd.ntmps105, List.size_toArray, List.length_cons, List.length_nil, Nat.reduceAdd, Nat.reduceSub, Array.replicate_succ, Array.replicate_zero, List.push_toArray, List.append_toArray, List.nil_append, List.cons_append]
  have hb2 := hBb.lt
  have hs0 : Sv W 5 1 a n c (bv l) := ⟨hs.len, hs.le, hs.cap, hs.nil, fun ad e => by
    obtain ⟨q, cur, t', fz, hb, r⟩ := hs.cells ad e
    exact ⟨q, cur, t', fz, (hW _ (lt_heap hb)).trans hb, r⟩⟩
  have hg0 : GK W := ⟨fun i hi => by
    have h1 := hg.cell i hi
    rwa [← World.cell?_of_block (a := ⟨0, i, none⟩) (hW 0 hg.lt)] at h1⟩
  have hb0 : RB W Bb 22 [.slice a n c] := ⟨(hW _ hb2).trans hBb.heap⟩
  have c0 : W.cell? ⟨Bb, 0, none⟩ = some (.slice a n c) := hb0.cell rfl
  have hmn : 52 * m ≤ n := by have := hm.le; rw [hl] at this; omega
  have hcap := hs.le
  have T45 := f45 W hg0 a n c l hn hB hs0
  have hl := Eqn.mk hl
  gi_wp2
  refine ⟨trivial, callsIn_wide.2 (T45.mono ?_)⟩
  rintro e W1 ⟨m', rfl, hm', hM1⟩
  obtain rfl : m = m' := hm.uniq hm'
  have hb1 := hb0.mods hM1 (fun f => f)
  have hs1 := hs0.mods hM1 (fun _ _ f => f)
  have hJ1 := hJ 0 W W1 h0 hM1
  clear hb0 hs0 hg0 c0 hm' T45
  gi_wp2
  gi_loopw [12] (fun i wr => ∃ (k : Nat), i = .int .i64 k ∧ k ≤ m ∧ RB wr Bb 22 [.slice a n c] ∧ Sv wr 5 1 a n c (bv l) ∧ J k wr) (fun i wr => m - (intOf i).toNat)
  case atStart => exact ⟨0, rfl, Nat.zero_le _, hb1, hs1, hJ1⟩
  case round =>
    obtain ⟨k, rfl, hk, hbb, hsv, hJk⟩ := hrel
    have d2 : wr.cell? ⟨Bb, 0, none⟩ = some (.slice a n c) := hbb.cell rfl
    by_cases hkN : k < m
    · obtain ⟨lo, hlo⟩ : ∃ lo, Eqn lo (52 * k) := ⟨_, ⟨rfl⟩⟩
      have q2 : lo ≤ n := by rw [hlo.out]; omega
      obtain ⟨a1, ks1, kv1, -⟩ := sub_from (a := a) (n := n) (c := c) lo (52 * (k : Int)) (by rw [hlo.out]; omega) q2 hcap
      have hp1 := kv1 wr l hsv
      have q3 : 20 ≤ n - lo := by rw [hlo.out]; omega
      obtain ⟨g, o, rfl⟩ := hp1.addr (by omega)
      have T106 := f106 wr g o _ _ _ hp1 q3 (hB.drop _)
      have hkm : (k : Int) < m := by omega
      clear kv1
      gi_wp2
      refine ⟨trivial, callsIn_wide.2 (T106.mono ?_)⟩
      rintro e w1 ⟨rfl, hM2⟩
      have hbb3 := hbb.mods hM2 (fun f => f)
      have hsv3 := hsv.mods hM2 (fun _ _ f => f)
      obtain ⟨fn, tmps, assign, body, hy, hR⟩ := hY k w1 #[.int .i64 k, entOf (l.drop lo)] hkN (hJ k wr w1 hJk hM2) ⟨by rw [hlo.out]⟩
      gi_wp2
      refine hR.mono ?_
      rintro e W' (⟨rfl, hJ2, hkeep, hsz1⟩ | ⟨rfl, hJx2⟩)
      · have b2 : RB W' Bb 22 [.slice a n c] := ⟨(hkeep Bb (.inl rfl)).trans hbb3.heap⟩
        have b3 : Sv W' 5 1 a n c (bv l) := ⟨hsv3.len, hsv3.le, hsv3.cap, hsv3.nil, fun ad e => by
          obtain ⟨z, cur, t', fz, hb, r⟩ := hsv3.cells ad e
          exact ⟨z, cur, t', fz, (hkeep _ (.inr ⟨ad, e, rfl⟩)).trans hb, r⟩⟩
        gi_wp2
        refine ⟨⟨k + 1, ?_, hkN, b2, b3, hJ2⟩, ?_⟩
        · go_num
        · have : ((k : Int) + 1) = ((k + 1 : Nat) : Int) := by omega
          rw [this]; exact down_one hkN
      · gi_wp2
        exact bodyPost_ret (results_none rfl _ _ _) rfl ⟨⟨_, rfl⟩, .inr hJx2⟩
    · have t1 : ¬ (k : Int) < m := by omega
      gi_wp2
      go_end0
      obtain rfl : k = m := by omega
      exact ⟨⟨_, rfl⟩, .inl hJk⟩
end Go.Proofs.YtladijfaeieidaaDoor
