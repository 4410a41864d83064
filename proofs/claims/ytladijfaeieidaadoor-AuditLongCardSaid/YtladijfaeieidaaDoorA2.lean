/- Contracts: the audit's Seq, Head (of both), read, right. Conditions: lengths that an append may come to. -/
import Derived.Test.YtladijfaeieidaaDoorD8
import Derived.Deep.RegionHeld3
import Derived.Deep.RegionWith
import Derived.Deep.Cut
namespace Go.Proofs.YtladijfaeieidaaDoor
open Go.RowKit

theorem bounds_both (n c lo hi : Nat) (L H : Int) (hL : L = (lo : Int)) (hH : H = (hi : Int)) (h1 : lo ≤ hi) (h2 : hi ≤ n) (h3 : n ≤ c) (P : Program) (w : World) : (Instr.sliceBounds true n c (some (.int .i64 L)) (some (.int .i64 H)) none).run P w = .ok (lo, hi, c) w := by
  subst hL
  subst hH
  have h4 : hi ≤ c := by omega
  simp [Instr.sliceBounds, Instr.sliceBound, asIntOf, h4, h1]
/-- The hash that a log's next line stands behind. -/
def headOf (l : List Int) : List Int := if l.length / 52 = 0 then List.replicate 32 0 else (l.drop (52 * (l.length / 52) - 32)).take 32
theorem length_headOf (l : List Int) : (headOf l).length = 32 := by
  unfold headOf
  split
  · simp
  · simp
    omega
theorem byt_headOf {l : List Int} (h : Byt l) : Byt (headOf l) := by
  unfold headOf
  split
  · intro x hx
    have := (List.mem_replicate.1 hx).2
    omega
  · exact h.sub _ _
theorem f46 (w : World) (a : Option Addr) (n c : Nat) (hn : Lim n) (q : Nat) (hq : Eqn q (n / 52)) : Calls Tryd.prog 46 #[.slice a n c] w fun e w' => e = .returned (.int .i64 q) ∧ w = w' := by
  have h1 := hn.le
  have h2 : ((n : Int) / 52) = q := by rw [hq.out]; omega
  go_enter Tryd.func46, Tryd.ntmps46
  go_wp2_with fail
  go_ret
  exact ⟨rfl, rfl⟩
theorem h3232 : (32 : Int) = ((32 : Nat) : Int) := rfl
theorem hq32a : 1 * 32 ≤ 281474976710656 := by omega
theorem hq32b : 32 ≤ maxLen := by simp only [maxLen]; omega
set_option maxRecDepth 100000 in
theorem f47 (w : World) (a : Option Addr) (n c : Nat) (l : List Int) (hs : Sv w 5 1 a n c (bv l)) (hn : Lim (n + 300)) :
    Calls Tryd.prog 47 #[.slice a n c] w fun e w' => ∃ a' c', e = .returned (.slice a' 32 c') ∧ SumOut w w' a' 32 c' (headOf l) := by
  have hl : l.length = n := by have := hs.len; simpa [bv] using this
  have h1 := hn.le
  obtain ⟨q, hq⟩ : ∃ q, Eqn q (n / 52) := ⟨_, ⟨rfl⟩⟩
  have T46 := f46 w a n c (hn.of (by omega)) q hq
  have hH : Eqn (headOf l) (if q = 0 then List.replicate 32 0 else (l.drop (52 * q - 32)).take 32) := ⟨by rw [headOf, hl, hq.out]⟩
  have hqn : 52 * q ≤ n := by rw [hq.out]; omega
  cases q with
  | zero =>
    go_enter Tryd.func47, Tryd.ntmps47
    go_wp2_with (first | (go_at_call 46; with_reducible refine T46.mono ?_; rintro e w' ⟨rfl, rfl⟩) | (with_reducible refine wpList_mk rfl (.const (.int .i64 32)) (.const (.int .i64 32)) ei22 rfl rfl 32 rfl rfl h3232 h3232 hq32a hq32b ?_; intro hrow))
    go_ret
    refine ⟨_, _, rfl, ?_, new_alloc w, alloc_mods _ _⟩
    have e9 : headOf l = List.replicate 32 0 := by rw [hH.out]; simp
    rw [e9]
    have := own_lit w (bv (List.replicate 32 0)) 5 32 rfl hq32b
    simpa [bv] using this
  | succ p =>
    have hcn := hs.le
    obtain ⟨lo, hLo⟩ : ∃ lo, Eqn lo (52 * p + 20) := ⟨_, ⟨rfl⟩⟩
    obtain ⟨hi, hHi⟩ : ∃ hi, Eqn hi (52 * p + 52) := ⟨_, ⟨rfl⟩⟩
    have hlo : lo ≤ hi := by rw [hLo.out, hHi.out]; omega
    have hhi : hi ≤ n := by rw [hHi.out]; omega
    have hhc : hi ≤ c := by omega
    have hT93 : ∀ {a'}, SubOut w 5 1 a a' (hi - lo) (c - lo) (((bv l).drop (lo * 1)).take ((hi - lo) * 1)) →
        Calls Tryd.prog 93 #[.slice a' (hi - lo) (c - lo)] w fun e w' => ∃ a' c', e = .returned (.slice a' 32 c') ∧ SumOut w w' a' 32 c' (headOf l) := by
      intro a' hS
      have h := hS.sv
      simp only [Nat.mul_one, bv_drop, bv_take] at h
      have hw : hi - lo = 32 := by rw [hLo.out, hHi.out]; omega
      refine (f93 h (lim_c (by omega))).mono ?_
      rintro e w' ⟨a9, c9, rfl, h1, h2, h3, -⟩
      have e9 : headOf l = (l.drop lo).take 32 := by rw [hH.out, if_neg (by omega), show 52 * (p + 1) - 32 = lo from by rw [hLo.out]; omega]
      rw [hw] at h1 ⊢
      rw [e9]
      exact ⟨a9, c9, rfl, h1, h2, h3⟩
    go_enter Tryd.func47, Tryd.ntmps47
    go_wp2_with (first | (go_at_call 46; with_reducible refine T46.mono ?_; rintro e w' ⟨rfl, rfl⟩) | (with_reducible refine wpList_sub rfl (.tmp 10) (some (.tmp 13)) (some (.tmp 14)) none ei22 rfl rfl hs lo hi c hlo hhi hhc (Nat.le_refl _) (bounds_both _ _ _ _ _ _ (by rw [hLo.out]; omega) (by rw [hHi.out]; omega) hlo hhi hcn _ _) ?_; intro a9 hS9; have T9 := hT93 hS9) | (go_at_call 93; with_reducible refine T9.mono ?_; rintro e w9 ⟨a9, c9, rfl, hO9⟩))
    go_ret
    exact ⟨_, _, rfl, hO9⟩
theorem str_eq {l r : List Int} (hl : Byt l) (hr : Byt r) : ((strOfNums l).toList == (strOfNums r).toList) = decide (l = r) := by
  have h : (strOfNums l).toList = (strOfNums r).toList ↔ l = r := by
    refine ⟨fun h => ?_, fun h => by rw [h]⟩
    rw [ByteArray.toList_eq, ByteArray.toList_eq, strOfNums_data, strOfNums_data] at h
    have key : ∀ (l r : List Int), Byt l → Byt r → l.map (fun n => UInt8.ofNat n.toNat) = r.map (fun n => UInt8.ofNat n.toNat) → l = r := by
      intro l
      induction l with
      | nil => intro r _ _ h; cases r <;> simp_all
      | cons x l ih =>
        intro r hl hr h
        cases r with
        | nil => simp at h
        | cons y r =>
          simp only [List.map_cons, List.cons.injEq] at h
          have hx := hl x (List.mem_cons_self)
          have hy := hr y (List.mem_cons_self)
          have e1 : x = y := by
            have := congrArg UInt8.toNat h.1
            simp at this
            omega
          rw [e1, ih r (fun z hz => hl z (List.mem_cons_of_mem _ hz)) (fun z hz => hr z (List.mem_cons_of_mem _ hz)) h.2]
    exact key l r hl hr h
  rw [Bool.eq_iff_iff, beq_iff_eq, decide_eq_true_iff, h]
theorem f115 (w : World) (a : Option Addr) (n c : Nat) (l : List Int) (hs : Sv w 5 1 a n c (bv l)) (hB : Byt l) (b : Option Addr) (m d : Nat) (r : List Int) (hr : Sv w 5 1 b m d (bv r)) (hR : Byt r) :
    Calls Tryd.prog 115 #[.slice a n c, .slice b m d] w fun e w' => e = .returned (.bool (decide (l = r))) ∧ w = w' := by
  have k1 := conv hs
  have k2 := conv hr
  go_enter Tryd.func115, Tryd.ntmps115
  go_wp2_with fail
  go_ret
  rw [str_eq hB hR]
  exact ⟨rfl, rfl⟩
set_option maxRecDepth 100000 in
theorem f48 (w : World) (a : Option Addr) (n c : Nat) (l : List Int) (hs : Sv w 5 1 a n c (bv l)) (hn : Lim (n + 300)) :
    Calls Tryd.prog 48 #[.slice a n c] w fun e w' => ∃ a' c', e = .returned (.slice a' 32 c') ∧ SumOut w w' a' 32 c' (headOf l) := by
  have hl : l.length = n := by have := hs.len; simpa [bv] using this
  have h1 := hn.le
  obtain ⟨q, hq⟩ : ∃ q, Eqn q (n / 52) := ⟨_, ⟨rfl⟩⟩
  have hH : Eqn (headOf l) (if q = 0 then List.replicate 32 0 else (l.drop (52 * q - 32)).take 32) := ⟨by rw [headOf, hl, hq.out]⟩
  have hqn : 52 * q ≤ n := by rw [hq.out]; omega
  have hq2 : ((n : Int) / 52) = q := by rw [hq.out]; omega
  cases q with
  | zero =>
    go_enter Tryd.func48, Tryd.ntmps48
    go_wp2_with (first | (with_reducible refine wpList_mk rfl (.const (.int .i64 32)) (.const (.int .i64 32)) ei22 rfl rfl 32 rfl rfl h3232 h3232 hq32a hq32b ?_; intro hrow))
    go_ret
    refine ⟨_, _, rfl, ?_, new_alloc w, alloc_mods _ _⟩
    have e9 : headOf l = List.replicate 32 0 := by rw [hH.out]; simp
    rw [e9]
    have := own_lit w (bv (List.replicate 32 0)) 5 32 rfl hq32b
    simpa [bv] using this
  | succ p =>
    have hcn := hs.le
    obtain ⟨lo, hLo⟩ : ∃ lo, Eqn lo (52 * p + 20) := ⟨_, ⟨rfl⟩⟩
    obtain ⟨hi, hHi⟩ : ∃ hi, Eqn hi (52 * p + 52) := ⟨_, ⟨rfl⟩⟩
    have hlo : lo ≤ hi := by rw [hLo.out, hHi.out]; omega
    have hhi : hi ≤ n := by rw [hHi.out]; omega
    have hhc : hi ≤ c := by omega
    have hw : Eqn (hi - lo) 32 := ⟨by rw [hLo.out, hHi.out]; omega⟩
    have hLm : Lim (0 + (hi - lo)) := lim_c (by rw [hw.out]; omega)
    have hON : Own w 5 1 none 0 0 (bv []) := own_nil w
    go_enter Tryd.func48, Tryd.ntmps48
    go_wp2_with (first | (with_reducible refine wpList_sub rfl (.tmp 10) (some (.tmp 13)) (some (.tmp 15)) none ei22 rfl rfl hs lo hi c hlo hhi hhc (Nat.le_refl _) (bounds_both _ _ _ _ _ _ (by rw [hLo.out]; omega) (by rw [hHi.out]; omega) hlo hhi hcn _ _) ?_; intro a9 hS9; have hS10 := hS9.sv; simp only [Nat.mul_one, bv_drop, bv_take] at hS10) | (at_builtin; with_reducible refine wpList_app rfl (.const (.slice none 0 0)) (.tmp 16) ei22 rfl hON hS10 rfl rfl (bv_one _) (lim_app hLm) hLm.maxLen ?_; intro a8 c8 w8 hO8))
    go_ret
    have e9 : headOf l = (l.drop lo).take (hi - lo) := by rw [hH.out, if_neg (by omega), show 52 * (p + 1) - 32 = lo from by rw [hLo.out]; omega, hw.out]
    rw [e9]
    have h9 := hO8.own
    have hM9 : Mods Nix w w8 := hO8.mods.mono (fun i _ ⟨ad, e, _⟩ => by cases e)
    have hN9 : New w.heap.size a8 := hO8.new (New.none _) (Nat.le_refl _)
    rw [← bv_append, List.nil_append, Nat.zero_add] at h9
    clear hO8 hS9 hS10
    rw [hw.out] at h9 ⊢
    exact ⟨_, _, rfl, h9, hN9, hM9⟩
/-- The entry that 20 bytes tell. -/
def entOf (l : List Int) : Value := .agg #[.int .i64 (be (l.take 4)), .int .i64 (IntKind.i64.wrap (be ((l.drop 4).take 8))), .int .i64 (be ((l.drop 12).take 2)), .int .i64 (be ((l.drop 14).take 4)), .int .i64 (be ((l.drop 18).take 2))]
theorem be_nn : ∀ (l : List Int), Byt l → 0 ≤ be l ∧ be l < 256 ^ l.length := by
  intro l
  have key : ∀ (l : List Int) (n : Int) (k : Nat), Byt l → 0 ≤ n → n < 256 ^ k → 0 ≤ l.foldl (fun n b => 256 * n + b) n ∧ l.foldl (fun n b => 256 * n + b) n < 256 ^ (k + l.length) := by
    intro l
    induction l with
    | nil => intro n k _ h0 h1; exact ⟨h0, by simpa using h1⟩
    | cons x l ih =>
      intro n k hB h0 h1
      have hx := hB x (List.mem_cons_self)
      have h2 : 256 * n + x < 256 ^ (k + 1) := by rw [Int.pow_succ]; omega
      have := ih (256 * n + x) (k + 1) (fun z hz => hB z (List.mem_cons_of_mem _ hz)) (by omega) h2
      rw [show k + (x :: l).length = k + 1 + l.length from by simp; omega]
      exact this
  intro hB
  have := key l 0 0 hB (by omega) (by simp)
  simpa [be] using this
theorem RB.behind {w w' : World} {P t : Nat} {vs : List Value} (h : RB w P t vs) (hm : Mods Nix w w') : RB w' P t vs := h.mods hm (fun f => f)
theorem i52 : (Tryd.prog.info? 52).map (·.size) = some 5 := by kernel_rfl
set_option maxRecDepth 100000 in
set_option maxHeartbeats 1000000 in
theorem f106 (w : World) (g o n c : Nat) (l : List Int) (hs : Sv w 5 1 (some ⟨g, o, none⟩) n c (bv l)) (hn : 20 ≤ n) (hB : Byt l) :
    Calls Tryd.prog 106 #[.slice (some ⟨g, o, none⟩) n c] w fun e w' => e = .returned (entOf l) ∧ Mods Nix w w' := by
  have hl : l.length = n := by have := hs.len; simpa [bv] using this
  have hc := hs.le
  have v1b := be_nn (l.take 4) (hB.take _)
  have v3b := be_nn ((l.drop 12).take 2) (hB.sub _ _)
  have v4b := be_nn ((l.drop 14).take 4) (hB.sub _ _)
  have v5b := be_nn ((l.drop 18).take 2) (hB.sub _ _)
  simp only [List.length_take, List.length_drop] at v1b v3b v4b v5b
  rw [show min 4 l.length = 4 from by omega] at v1b
  rw [show min 2 (l.length - 12) = 2 from by omega] at v3b
  rw [show min 4 (l.length - 14) = 4 from by omega] at v4b
  rw [show min 2 (l.length - 18) = 2 from by omega] at v5b
  have T1 : Behind w fun w1 => Calls Tryd.prog 139 #[.slice (some ⟨g, o, none⟩) n c] w1 fun e w' => e = .returned (.int .u32 (be (l.take 4))) ∧ Mods Nix w1 w' ∧ Mods Nix w w' := ⟨fun w1 hM => (get32 (hs.mods hM (fun _ _ f => f)) hl (by omega) hB).mono (by
    rintro e w' ⟨rfl, nq, rfl⟩
    exact ⟨rfl, (Mods.refl Nix w1).drewN _, hM.drewN _⟩)⟩
  have T2 : Behind w fun w1 => Calls Tryd.prog 140 #[.slice (some ⟨g, o + 4, none⟩) (n - 4) (c - 4)] w1 fun e w' => e = .returned (.int .u64 (be ((l.drop 4).take 8))) ∧ Mods Nix w1 w' ∧ Mods Nix w w' := ⟨fun w1 hM => by
    have h := (hs.mods hM (fun _ _ f => f)).tail 4 (by omega) (by omega)
    rw [bv_drop] at h
    exact (get64 h (by simp; omega) (by omega) (hB.drop _)).mono (by
      rintro e w' ⟨rfl, nq, rfl⟩
      exact ⟨rfl, (Mods.refl Nix w1).drewN _, hM.drewN _⟩)⟩
  have T3 : Behind w fun w1 => Calls Tryd.prog 141 #[.slice (some ⟨g, o + 12, none⟩) (n - 12) (c - 12)] w1 fun e w' => e = .returned (.int .u16 (be ((l.drop 12).take 2))) ∧ Mods Nix w1 w' ∧ Mods Nix w w' := ⟨fun w1 hM => by
    have h := (hs.mods hM (fun _ _ f => f)).tail 12 (by omega) (by omega)
    rw [bv_drop] at h
    exact (get16 h (by simp; omega) (by omega) (hB.drop _)).mono (by
      rintro e w' ⟨rfl, nq, rfl⟩
      exact ⟨rfl, (Mods.refl Nix w1).drewN _, hM.drewN _⟩)⟩
  have T4 : Behind w fun w1 => Calls Tryd.prog 139 #[.slice (some ⟨g, o + 14, none⟩) (n - 14) (c - 14)] w1 fun e w' => e = .returned (.int .u32 (be ((l.drop 14).take 4))) ∧ Mods Nix w1 w' ∧ Mods Nix w w' := ⟨fun w1 hM => by
    have h := (hs.mods hM (fun _ _ f => f)).tail 14 (by omega) (by omega)
    rw [bv_drop] at h
    exact (get32 h (by simp; omega) (by omega) (hB.drop _)).mono (by
      rintro e w' ⟨rfl, nq, rfl⟩
      exact ⟨rfl, (Mods.refl Nix w1).drewN _, hM.drewN _⟩)⟩
  have T5 : Behind w fun w1 => Calls Tryd.prog 141 #[.slice (some ⟨g, o + 18, none⟩) (n - 18) (c - 18)] w1 fun e w' => e = .returned (.int .u16 (be ((l.drop 18).take 2))) ∧ Mods Nix w1 w' ∧ Mods Nix w w' := ⟨fun w1 hM => by
    have h := (hs.mods hM (fun _ _ f => f)).tail 18 (by omega) (by omega)
    rw [bv_drop] at h
    exact (get16 h (by simp; omega) (by omega) (hB.drop _)).mono (by
      rintro e w' ⟨rfl, nq, rfl⟩
      exact ⟨rfl, (Mods.refl Nix w1).drewN _, hM.drewN _⟩)⟩
  obtain ⟨v1, hv1⟩ : ∃ v, Eqn v (be (l.take 4)) := ⟨_, ⟨rfl⟩⟩
  obtain ⟨v2, hv2⟩ : ∃ v, Eqn v (be ((l.drop 4).take 8)) := ⟨_, ⟨rfl⟩⟩
  obtain ⟨v3, hv3⟩ : ∃ v, Eqn v (be ((l.drop 12).take 2)) := ⟨_, ⟨rfl⟩⟩
  obtain ⟨v4, hv4⟩ : ∃ v, Eqn v (be ((l.drop 14).take 4)) := ⟨_, ⟨rfl⟩⟩
  obtain ⟨v5, hv5⟩ : ∃ v, Eqn v (be ((l.drop 18).take 2)) := ⟨_, ⟨rfl⟩⟩
  rw [entOf, ← hv1.out, ← hv2.out, ← hv3.out, ← hv4.out, ← hv5.out]
  rw [← hv1.out] at T1 v1b
  rw [← hv2.out] at T2
  rw [← hv3.out] at T3 v3b
  rw [← hv4.out] at T4 v4b
  rw [← hv5.out] at T5 v5b
  have w1 : IntKind.i64.wrap v1 = v1 := IntWalk.i64_in _ (by omega)
  have w3 : IntKind.i64.wrap v3 = v3 := IntWalk.i64_in _ (by omega)
  have w4 : IntKind.i64.wrap v4 = v4 := IntWalk.i64_in _ (by omega)
  have w5 : IntKind.i64.wrap v5 = v5 := IntWalk.i64_in _ (by omega)
  have hc4 : ¬ c = 4 := by omega
  have hc12 : ¬ c = 12 := by omega
  have hc14 : ¬ c = 14 := by omega
  have hc18 : ¬ c = 18 := by omega
  have hn4 : 4 ≤ n := by omega
  have hn12 : 12 ≤ n := by omega
  have hn14 : 14 ≤ n := by omega
  have hn18 : 18 ≤ n := by omega
  obtain ⟨P0, hP0⟩ : ∃ P0, Eqn P0 w.heap.size := ⟨_, ⟨rfl⟩⟩
  obtain ⟨W1, hW1⟩ : ∃ W1, Eqn W1 (w.alloc (.cells #[.int .i64 0, .int .i64 0, .int .i64 0, .int .i64 0, .int .i64 0] 52)) := ⟨_, ⟨rfl⟩⟩
  have hR0 : RB W1.drew P0 52 [.int .i64 0, .int .i64 0, .int .i64 0, .int .i64 0, .int .i64 0] := by
    rw [hW1.out, hP0.out]
    exact (RB.new w _ 52).drew
  have hM1 : Mods Nix w W1.drew := by rw [hW1.out]; exact (alloc_mods _ _).drew
  have ks : ∀ (m : Nat) (L : Int), L = (m : Int) → m ≤ n → ¬ c = m → ∀ w, (Instr.sliceAt 22 (.slice (some ⟨g, o, none⟩) n c) (some (.int .i64 L)) none none).run Tryd.prog w = .ok (.slice (some ⟨g, o + m, none⟩) (n - m) (c - m)) w := by
    intro m L hL hm hcm w
    have h := run_slice_gen (P := Tryd.prog) w ei22 (some ⟨g, o, none⟩) n c m n c (some (.int .i64 L)) none none (bounds_from n c m L hL hm hc _ _)
    rw [h, if_neg hcm]
    simp [Addr.add_lit]
  have ks4 := ks 4 4 rfl hn4 hc4
  have ks12 := ks 12 12 rfl hn12 hc12
  have ks14 := ks 14 14 rfl hn14 hc14
  have ks18 := ks 18 18 rfl hn18 hc18
  clear ks hc4 hc12 hc14 hc18 hn4 hn12 hn14 hn18
  clear v1b v3b v4b v5b hs hl hB
  go_enter Tryd.func106, Tryd.ntmps106
  go_upto_region 1 with fail
  rw [← hW1.out, ← hP0.out]
  have R1 := T1.out _ hM1
  go_region_with (first | (go_at_call 139; with_reducible refine R1.mono ?_; rintro e w2 ⟨rfl, hM2, hM20⟩; have R2 := T2.out _ hM20) | (go_at_call 140; with_reducible refine R2.mono ?_; rintro e w3 ⟨rfl, hM3, hM30⟩; have R3 := T3.out _ hM30) | (go_at_call 141; with_reducible refine R3.mono ?_; rintro e w4 ⟨rfl, hM4, hM40⟩; have R4 := T4.out _ hM40) | (go_at_call 139; with_reducible refine R4.mono ?_; rintro e w5 ⟨rfl, hM5, hM50⟩; have R5 := T5.out _ hM50) | (go_at_call 141; with_reducible refine R5.mono ?_; rintro e w6 ⟨rfl, hM6, hM60⟩; have hR6 := (((((hR0.behind hM2).behind hM3).behind hM4).behind hM5).behind hM6); have e0 := hR6.cell (i := 0) rfl; have e1 := hR6.cell (i := 1) rfl; have e2 := hR6.cell (i := 2) rfl; have e3 := hR6.cell (i := 3) rfl; have e4 := hR6.cell (i := 4) rfl; have k0 := hR6.free 0; have k1 := hR6.free 1; have k2 := hR6.free 2; have k3 := hR6.free 3; have k4 := hR6.free 4))
  simp only [Exit.then]
  go_at_K
  go_wp2_with fail
  have hR7 := ((((hR6.set 0 (.int .i64 v1)).set 1 (.int .i64 (IntKind.i64.wrap v2))).set 2 (.int .i64 v3)).set 3 (.int .i64 v4)).set 4 (.int .i64 v5)
  refine bodyPost_ret (results_cell_row rfl _ _ P0 52 _ (0, 0) _ rfl hR7.heap Tryd.underlying52 rfl (by rw [i52]; rfl)) rfl ⟨rfl, ?_⟩
  exact ((((hM60.setCell (.inr (by rw [hP0.out]; exact Nat.le_refl _)) _).setCell (.inr (by rw [hP0.out]; exact Nat.le_refl _)) _).setCell (.inr (by rw [hP0.out]; exact Nat.le_refl _)) _).setCell (.inr (by rw [hP0.out]; exact Nat.le_refl _)) _).setCell (.inr (by rw [hP0.out]; exact Nat.le_refl _)) _
end Go.Proofs.YtladijfaeieidaaDoor
