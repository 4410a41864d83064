/- Contracts of the reference hashes: SHA-512. Conditions: a length that an append may come to. -/
import Derived.Test.YtladijfaeieidaaDoorD4
namespace Go.Proofs.YtladijfaeieidaaDoor
open Go.RowKit

/-- The state after t blocks. -/
def eat64 (v m : List Int) : Nat → List Int
  | 0 => v
  | t + 1 => take512 (eat64 v m t) (piece m 128 t)
theorem length_eat64 (v m : List Int) (h : v.length = 8) : ∀ t, (eat64 v m t).length = 8
  | 0 => h
  | t + 1 => length_take512 _ _ (length_eat64 v m h t)
theorem padd_len128 (l : List Int) : (l ++ padd 128 16 l.length).length % 128 = 0 := by
  simp only [List.length_append, padd, List.length_cons, List.length_replicate, en8, List.length_nil, zer]; omega
theorem h128 : (128 : Int) = ((128 : Nat) : Int) := rfl
theorem be4_lt (l : List Int) (hB : Byt l) (hl : 4 ≤ l.length) : 0 ≤ be (l.take 4) ∧ be (l.take 4) < 4294967296 := by
  rw [be_4 l hl]
  have h0 := hB.at 0 (by omega); have h1 := hB.at 1 (by omega); have h2 := hB.at 2 (by omega); have h3 := hB.at 3 (by omega)
  omega
theorem be_split (l : List Int) (hl : 8 ≤ l.length) : be (l.take 8) = be (l.take 4) * 4294967296 + be ((l.drop 4).take 4) := by
  rw [be_8 l hl, be_4 l (by omega), be_4 (l.drop 4) (by rw [List.length_drop]; omega)]
  simp only [List.getD, List.getElem?_drop, Nat.reduceAdd, Nat.add_zero]
  omega
theorem or_words (h l : Int) (hh : 0 ≤ h ∧ h < 4294967296) (hl : 0 ≤ l ∧ l < 4294967296) : bits .or .u64 (IntKind.u64.wrap (IntKind.u64.wrap h * 4294967296)) (IntKind.u64.wrap l) = h * 4294967296 + l := by
  have u : ∀ n : Int, 0 ≤ n → n < 18446744073709551616 → IntKind.u64.wrap n = n := fun n h0 h1 => uwraps (k := .u64) rfl n h0 h1
  rw [u h (by omega) (by omega), u l (by omega) (by omega), u (h * 4294967296) (by omega) (by omega)]
  exact bits_join .u64 64 (by decide) (uwraps (k := .u64) rfl) 32 (h * 4294967296) l (by omega) (by omega) (by omega) (by omega) (by omega) (by omega)
theorem en8_split (x : Int) : en8 x = en4 (x / 4294967296 % 4294967296) ++ en4 (x % 4294967296) := by
  simp only [en8, en4, List.cons_append, List.nil_append, List.cons.injEq, and_true]
  refine ⟨?_, ?_, ?_, ?_, ?_, ?_, ?_, ?_⟩ <;> omega
theorem blk_word8 (Q : List Int) (s : Nat) (h : s < 16) : (((Q.take 128).drop (8 * s)).take 8) = ((Q.drop (8 * s)).take 8) := by
  rw [List.drop_take, List.take_take, Nat.min_eq_left (by omega)]
theorem hq80a : 8 * 80 ≤ 281474976710656 := by omega
set_option maxRecDepth 100000 in
set_option maxHeartbeats 4000000 in
theorem f88 (w : World) (a : Option Addr) (n c : Nat) (l : List Int) (hs : Sv w 5 1 a n c (bv l)) (hl : Lim (n + 300)) (hB : Byt l) (g : Nat) (v : List Int) (hv : v.length = 8) (hiv : IB w g 107 .u64 v) :
    Calls Tryd.prog 88 #[.slice a n c, .slice (some ⟨g, 0, none⟩) 8 8] w fun e w' => ∃ a' c', e = .returned (.slice a' 64 c') ∧ Own w' 5 1 a' 64 c' (bv ((eat64 v (l ++ padd 128 16 l.length) ((l ++ padd 128 16 l.length).length / 128)).flatMap en8)) ∧ New w.heap.size a' ∧ Mods (fun i => i = g) w w' := by
  have hnl : Eqn l.length n := ⟨by have := hs.len; simpa [bv] using this⟩
  have hvl := Eqn.mk hv
  clear hv
  have T2 : ∀ {w1}, Mods Nix w w1 → Calls Tryd.prog 125 #[.slice a n c, .int .i64 128, .int .i64 16] w1 fun e w' => ∃ a' k' c', e = .returned (.slice a' k' c') ∧ Eqn k' (l ++ padd 128 16 l.length).length ∧ SumOut w1 w' a' k' c' (l ++ padd 128 16 l.length) := fun hM => (f125_128 _ a n c l (hs.mods hM (fun _ _ f => f)) hl).mono (fun e w' ⟨a', k', c', h1, h2, h3⟩ => ⟨a', k', c', h1, ⟨h2⟩, h3⟩)
  go_enter Tryd.func88, Tryd.ntmps88
  go_upto_region 2 with (go_at_call 131; refine (f131 _).mono ?_; rintro e w1 ⟨ak, ck, rfl, hT⟩)
  have T3 := T2 hT.mods
  go_wp2_with (go_at_call 125; refine T3.mono ?_; rintro e w2 ⟨ap, np, cp, rfl, hnp, hS⟩)
  obtain ⟨P, hP⟩ : ∃ P, Eqn P (l ++ padd 128 16 l.length) := ⟨_, ⟨rfl⟩⟩
  rw [← hP.out] at hS hnp
  obtain ⟨N, hN⟩ : ∃ N, Eqn np (128 * N) := ⟨np / 128, ⟨by rw [hnp.out, hP.out]; have := padd_len128 l; omega⟩⟩
  have hPl : Eqn P.length np := ⟨hnp.out.symm⟩
  clear hnp T2 T3
  have hM2 : Mods Nix w w2 := hT.mods.trans' hS.mods (fun _ _ f => f)
  have hTab : Sv w2 107 1 ak 80 ck (k512.map (Value.int .u64)) := hT.own.toSv.mods hS.mods (fun _ _ f => f)
  have hPB : Byt P := by rw [hP.out]; exact hB.app (byt_padd _ _ _)
  have hgw := hiv.lt
  have hapN : ∀ i, In ap i → w.heap.size ≤ i := by rintro i ⟨ad, e, rfl⟩; have := hS.fresh ad e; have := hT.mods.size; omega
  have hakN : ∀ i, In ak i → w.heap.size ≤ i := by rintro i ⟨ad, e, rfl⟩; exact hT.fresh ad e
  go_loopw [6] (fun o wr => ∃ (t nn : Nat) (a' : Option Addr) (c' : Nat), t ≤ N ∧ Eqn nn (128 * (N - t)) ∧ o = .slice a' nn c' ∧ Sv wr 5 1 a' nn c' (bv (P.drop (128 * t))) ∧ (∀ i, In a' i → w.heap.size ≤ i) ∧ IB wr g 107 .u64 (eat64 v P t) ∧ Sv wr 107 1 ak 80 ck (k512.map (Value.int .u64)) ∧ Mods (fun i => i = g) w wr) (fun o _ => lenV o)
  case atStart => 
    refine ⟨0, np, ap, cp, Nat.zero_le _, ⟨by rw [Nat.sub_zero, ← hN.out]⟩, rfl, ?_, hapN, hiv.mods hM2 (fun f => f), hTab, hM2.mono (fun _ _ f => f.elim)⟩
    simpa using hS.own.toSv
  case round =>
    obtain ⟨t, nn, a', c', ht, hnn, rfl, hD, hDN, hV, hK, hM⟩ := hrel
    by_cases h8 : t < N
    · have hn64 : 128 ≤ nn := by have := hnn.out; omega
      have hpos : (0 : Int) < (nn : Nat) := by omega
      go_upto_region 6 with (first | (with_reducible refine wpList_mk rfl (.const (.int .i64 80)) (.const (.int .i64 80)) ei108 rfl rfl 80 rfl rfl h8080 h8080 hq80a hq80b ?_; intro _))
      have hcc := hD.le
      obtain ⟨bp, op, rfl⟩ := hD.addr (by omega)
      obtain ⟨W0, hW0⟩ : ∃ W0, Eqn W0 (wr.alloc (.cells (List.replicate 80 (.int .u64 0)).toArray 107)) := ⟨_, ⟨rfl⟩⟩
      change Code.wp _ _ _ _ (wr.alloc (.cells (List.replicate 80 (.int .u64 0)).toArray 107))
      rw [← hW0.out]
      have hW00 : IB W0 wr.heap.size 107 .u64 (List.replicate 80 0) := by rw [hW0.out]; exact IB.new wr (List.replicate 80 0) .u64 107
      have hMW : Mods Nix wr W0 := by rw [hW0.out]; exact alloc_mods _ _
      obtain ⟨B, hBB⟩ : ∃ B, Eqn B wr.heap.size := ⟨_, ⟨rfl⟩⟩
      rw [← hBB.out] at hW00 ⊢
      have hwB : w.heap.size ≤ B := by rw [hBB.out]; exact hM.size
      obtain ⟨Q, hQ⟩ : ∃ Q, Eqn Q (P.drop (128 * t)) := ⟨_, ⟨rfl⟩⟩
      rw [← hQ.out] at hD
      have hQl : Eqn Q.length nn := ⟨by have := hD.len; simpa [bv] using this⟩
      have hQB : Byt Q := by rw [hQ.out]; exact hPB.drop _
      obtain ⟨blk, hblk⟩ : ∃ blk, Eqn blk (Q.take 128) := ⟨_, ⟨rfl⟩⟩
      obtain ⟨V, hVV⟩ : ∃ V, Eqn V (eat64 v P t) := ⟨_, ⟨rfl⟩⟩
      rw [← hVV.out] at hV
      have hVl : Eqn V.length 8 := ⟨by rw [hVV.out]; exact length_eat64 _ _ hvl.out _⟩
      have hKp0 : Keep w B g (some ⟨bp, op, none⟩) nn c' Q 107 .u64 ak 80 ck k512 V wr := ⟨hD, hV, hK, hM, hgw, fun i hi => ⟨hDN i hi, by obtain ⟨ad, e, rfl⟩ := hi; have := hD.lt ad e; have := hBB.out; omega⟩, fun i hi => ⟨hakN i hi, by obtain ⟨ad, e, rfl⟩ := hi; have := hK.lt ad e; have := hBB.out; omega⟩, hwB⟩
      have hKp := hKp0.nix hMW
      clear hKp0 hD hV hK hM hW0 hMW
      go_wp2_with fail
      go_loopw [8] (fun i w2 => ∃ s : Nat, s ≤ 80 ∧ i = .int .i64 s ∧ IB w2 B 107 .u64 (sched 8 nw512 blk s ++ List.replicate (80 - s) 0) ∧ Keep w B g (some ⟨bp, op, none⟩) nn c' Q 107 .u64 ak 80 ck k512 V w2) (fun i _ => 80 - (intOf i).toNat)
      case atStart => exact ⟨0, by omega, rfl, hW00, hKp⟩
      case round =>
        clear hW00 hKp
        obtain ⟨s, hs, rfl, hw, hKp⟩ := hrel
        have hsl := Eqn.mk (length_sched 8 nw512 blk s)
        by_cases h64 : s < 80
        · by_cases h16 : s < 16
          ·
            obtain ⟨x0, _, hx0⟩ := hw.cell s (by simp [hsl.out]; omega)
            have hf := hw.free s
            have hx0' := (Mods.refl Nix wr).drew.cell hx0 (fun f => f)
            have hf' : wr.drew.frozen? ⟨B, s, none⟩ = false := hf
            have hwm : ∀ {w1 : World} (j : Nat), Mods Nix wr w1 → 4 + j ≤ nn → j < c' → Calls Tryd.prog 126 #[.slice (some ⟨bp, op + j, none⟩) (nn - j) (c' - j)] w1 fun e w' => e = .returned (.int .u32 (be ((Q.drop j).take 4))) ∧ Mods Nix w1 w' ∧ Mods Nix wr w' := by
              intro w1 j hM hj hjc
              refine (word (w := w1) (l := Q.drop j) (by rw [← bv_drop]; exact (hKp.blk.mods hM (fun _ _ f => f)).tail _ (by omega) (by omega)) (by rw [List.length_drop, hQl.out]) (by omega) (hQB.drop _)).mono ?_
              rintro e w' ⟨rfl, nq, rfl⟩
              exact ⟨rfl, (Mods.refl _ _).drewN _, hM.drewN _⟩
            have T1 := hwm (8 * s) ((Mods.refl Nix wr).drew) (by omega) (by omega)
            have T2 : ∀ {w1 : World}, Mods Nix wr w1 → _ := fun hM => hwm (8 * s + 4) hM (by omega) (by omega)
            have q0 : (0 : Int) ≤ s := by omega
            have q1 : IntKind.i64.wrap (8 * (s : Int)) = 8 * (s : Int) := IntWalk.i64_in _ (by omega)
            have q2 : IntKind.i64.wrap (8 * (s : Int) + 4) = 8 * (s : Int) + 4 := IntWalk.i64_in _ (by omega)
            have q3 : (8 * (s : Int)).toNat = 8 * s := by omega
            have q4 : (8 * (s : Int) + 4).toNat = 8 * s + 4 := by omega
            have q5 : 8 * (s : Int) ≤ nn := by omega
            have q6 : 8 * (s : Int) + 4 ≤ nn := by omega
            have q7 : (0 : Int) ≤ 8 * (s : Int) := by omega
            have q8 : (0 : Int) ≤ 8 * (s : Int) + 4 := by omega
            have q9 : ¬ c' = 8 * s := by omega
            have q10 : ¬ c' = 8 * s + 4 := by omega
            have q11 : (s : Int) < 80 := by omega
            have nix : ∀ {i}, ¬ Nix i := fun f => f
            go_wp2_with fail
            go_region_held3 (fun _ => True) (first | exact True.intro) (first | (go_at_call 126; with_reducible refine T1.mono ?_; rintro e w4 ⟨rfl, hM4, hM4'⟩; have hx4 := hM4.cell hx0' nix; have hf4 := (hw.mods hM4' nix).free s) | (go_at_call 126; with_reducible refine (T2 hM4').mono ?_; rintro e w5 ⟨rfl, hM5, hM5'⟩; have hx5 := hM5.cell hx4 nix; have hf5 := (hw.mods hM5' nix).free s))
            go_wp2_with fail
            have eW := or_words (be ((Q.drop (8 * s)).take 4)) (be ((Q.drop (8 * s + 4)).take 4)) (be4_lt _ (hQB.drop _) (by rw [List.length_drop, hQl.out]; omega)) (be4_lt _ (hQB.drop _) (by rw [List.length_drop, hQl.out]; omega))
            rw [eW]
            clear q0 q1 q2 q3 q4 q5 q6 q7 q8 q9 q10 q11 eW
            go_roundw
            case measure => simp [intOf]; omega
            case rel =>
              refine ⟨s + 1, by omega, by go_num, ?_, (hKp.nix hM5').cell _ _⟩
              exact sched_put (hw.mods hM5' (fun f => f)) (by omega) (by rw [if_pos h16, hblk.out, blk_word8 Q s h16, be_split _ (by rw [List.length_drop, hQl.out]; omega), List.drop_drop])
          ·
            as_aux_lemma =>
              obtain ⟨k, rfl⟩ : ∃ k, s = k + 16 := ⟨s - 16, by omega⟩
              obtain ⟨x15, E15, hx15⟩ := hw.cell (k + 1) (by simp [hsl.out]; omega)
              obtain ⟨x2, E2, hx2⟩ := hw.cell (k + 14) (by simp [hsl.out]; omega)
              obtain ⟨x16, E16, hx16⟩ := hw.cell k (by simp [hsl.out]; omega)
              obtain ⟨x7, E7, hx7⟩ := hw.cell (k + 9) (by simp [hsl.out]; omega)
              obtain ⟨x0, _, hx0⟩ := hw.cell (k + 16) (by simp [hsl.out]; omega)
              have hf := hw.free (k + 16)
              go_wp2_with fail
              have q0 : (0 : Int) ≤ k := by omega
              have q1 : (k : Int) < 80 := by omega
              have q2 : IntKind.i64.wrap (k : Int) = k := IntWalk.i64_in _ (by omega)
              have q3 : IntKind.i64.wrap ((k : Int) + 16 - 7) = (k : Int) + 9 := by
                rw [IntWalk.i64_in _ (by omega)]; omega
              have q4 : (0 : Int) ≤ (k : Int) + 9 := by omega
              have q5 : (k : Int) + 9 < 80 := by omega
              have q6 : ((k : Int) + 9).toNat = k + 9 := by omega
              have q7 : IntKind.i64.wrap ((k : Int) + 16) = (k : Int) + 16 := IntWalk.i64_in _ (by omega)
              have q8 : ((k : Int) + 16).toNat = k + 16 := by omega
              refine wp_region_still_tail 31 (by kernel_rfl) (by kernel_rfl) ?_
              simp only [List.take_succ_cons, List.take_zero, List.drop_succ_cons, List.drop_zero]
              repeat still_step
              still_call (stillC (f132_1 _ _))
              repeat still_step
              still_call (stillC (f132_8 _ _))
              repeat still_step
              still_call (stillC (f132_19 _ _))
              repeat still_step
              still_call (stillC (f132_61 _ _))
              repeat still_step
              refine wpStill_nil ?_
              change wpList _ _ _ _ _ wr.drew
              go_wp2_with fail
              clear q0 q1 q2 q3 q4 q5 q6 q7 q8
              go_roundw
              case measure => simp [intOf]; omega
              case rel =>
                refine ⟨k + 16 + 1, by omega, by go_num, ?_, hKp.drew.cell _ _⟩
                exact sched_put hw.drew (by omega) (by rw [if_neg (by omega)]; exact nw512_of hsl.out E15 E2 E16 E7)
        · obtain rfl : s = 80 := by omega
          obtain ⟨S, hS6⟩ : ∃ S, Eqn S (sched 8 nw512 blk 80) := ⟨_, ⟨rfl⟩⟩
          have hSl : Eqn S.length 80 := ⟨by rw [hS6.out]; exact hsl.out⟩
          rw [← hS6.out] at hw
          have hw' : IB wr B 107 .u64 S := by simpa using hw
          clear hw hsl hs h64
          have hVS : Sv wr 107 1 (some ⟨g, 0, none⟩) 8 8 (V.map (Value.int .u64)) := hKp.hv.sv hVl.out (by simp only [maxLen]; omega)
          have hone : ∀ u ∈ V.map (Value.int .u64), u.oneCell' = true := by
            intro u hu
            obtain ⟨_, _, rfl⟩ := List.mem_map.1 hu
            rfl
          have hON : ∀ w : World, Own w 107 1 none 0 0 [] := fun w => Own.none w _ _
          go_upto_region 15 with (at_builtin; refine wpList_app rfl (.const (.slice none 0 0)) (.tmp 96) ei108 rfl (hON _) hVS rfl rfl hone (by omega) (by simp only [maxLen]; omega) ?_; intro av cv wv hOv)
          have hMv : Mods Nix wr wv := hOv.mods.mono (fun i _ ⟨ad, e, _⟩ => by cases e)
          have hKv := hKp.nix hMv
          have hwv := hw'.mods hMv (fun f => f)
          have hSvv : Sv wv 107 1 av 8 cv (V.map (Value.int .u64)) := by have := hOv.own.toSv; simpa using this
          have hNv : New w.heap.size av := hOv.new (New.none _) hKp.mods.size
          clear hOv hMv hKp hw' hVS hone hON
          go_wp2_with fail
          go_loopw [11, 12] (fun o i w3 => ∃ (s : Nat) (av : Option Addr) (cv : Nat), s ≤ 80 ∧ i = .int .i64 s ∧ o = .slice av 8 cv ∧ New w.heap.size av ∧ Sv w3 107 1 av 8 cv ((rounds512 S V s).map (Value.int .u64)) ∧ IB w3 B 107 .u64 S ∧ Keep w B g (some ⟨bp, op, none⟩) nn c' Q 107 .u64 ak 80 ck k512 V w3) (fun _ i _ => 80 - (intOf i).toNat)
          case atStart => exact ⟨0, av, cv, by omega, rfl, rfl, hNv, hSvv, hwv, hKv⟩
          case round =>
            clear hSvv hwv hKv hNv
            obtain ⟨s, av, cv, hs, rfl, rfl, hNv, hv, hw, hKp⟩ := hrel
            by_cases h64 : s < 80
            ·
              obtain ⟨a0, b0, c0, d0, e0, f0, g0, h0, hE⟩ := eight _ (length_rounds512 S V hVl.out s)
              rw [hE] at hv
              have HE := Eqn.mk hE
              clear hE
              have hcv := hv.le
              obtain ⟨bv', ov, rfl⟩ := hv.addr (by omega)
              have d0' : wr.cell? ⟨bv', ov, none⟩ = some (.int .u64 a0) := hv.cell (i := 0) rfl
              have d1' : wr.cell? ⟨bv', ov + 1, none⟩ = some (.int .u64 b0) := hv.cell (i := 1) rfl
              have d2' : wr.cell? ⟨bv', ov + 2, none⟩ = some (.int .u64 c0) := hv.cell (i := 2) rfl
              have d3' : wr.cell? ⟨bv', ov + 3, none⟩ = some (.int .u64 d0) := hv.cell (i := 3) rfl
              have d4' : wr.cell? ⟨bv', ov + 4, none⟩ = some (.int .u64 e0) := hv.cell (i := 4) rfl
              have d5' : wr.cell? ⟨bv', ov + 5, none⟩ = some (.int .u64 f0) := hv.cell (i := 5) rfl
              have d6' : wr.cell? ⟨bv', ov + 6, none⟩ = some (.int .u64 g0) := hv.cell (i := 6) rfl
              have d7' : wr.cell? ⟨bv', ov + 7, none⟩ = some (.int .u64 h0) := hv.cell (i := 7) rfl
              obtain ⟨bk, ok, hak⟩ := hKp.tab.addr (by omega)
              have hck := hKp.tab.le
              have hakE := Eqn.mk hak
              clear hak
              obtain ⟨kt, hkt⟩ : ∃ kt, Eqn kt (K s) := ⟨_, ⟨rfl⟩⟩
              have dk : wr.cell? ⟨bk, ok + s, none⟩ = some (.int .u64 kt) := by
                have h9 := hKp.tab
                rw [hakE.out] at h9
                refine h9.cell ?_
                rw [hkt.out]; simp [k512, h64]
              obtain ⟨x, hx⟩ : ∃ x, Eqn x (S.getD s 0) := ⟨_, ⟨rfl⟩⟩
              have dx : wr.cell? ⟨B, s, none⟩ = some (.int .u64 x) := hw.row.cell (by rw [hx.out]; simp [hSl.out, h64, List.getD])
              have q0 : (0 : Int) ≤ s := by omega
              have q1 : (s : Int) < 80 := by omega
              have haks := hakE.out
              subst haks
              clear hakE
              go_wp2_with fail
              refine wp_region_still_tail 35 (by kernel_rfl) (by kernel_rfl) ?_
              simp only [List.take_succ_cons, List.take_zero, List.drop_succ_cons, List.drop_zero]
              repeat still_step
              still_call (stillC (f132_14 _ _))
              repeat still_step
              still_call (stillC (f132_18 _ _))
              repeat still_step
              still_call (stillC (f132_41 _ _))
              repeat still_step
              refine wpStill_nil ?_
              change wpList _ _ _ _ _ wr.drew
              obtain ⟨wa, hwa⟩ : ∃ wa, Eqn wa wr.drew := ⟨_, ⟨rfl⟩⟩
              have d0'wa : wa.cell? ⟨bv', ov, none⟩ = some (.int .u64 a0) := by rw [hwa.out]; exact d0'
              have d1'wa : wa.cell? ⟨bv', ov + 1, none⟩ = some (.int .u64 b0) := by rw [hwa.out]; exact d1'
              have d2'wa : wa.cell? ⟨bv', ov + 2, none⟩ = some (.int .u64 c0) := by rw [hwa.out]; exact d2'
              have d3'wa : wa.cell? ⟨bv', ov + 3, none⟩ = some (.int .u64 d0) := by rw [hwa.out]; exact d3'
              have d4'wa : wa.cell? ⟨bv', ov + 4, none⟩ = some (.int .u64 e0) := by rw [hwa.out]; exact d4'
              have d5'wa : wa.cell? ⟨bv', ov + 5, none⟩ = some (.int .u64 f0) := by rw [hwa.out]; exact d5'
              have d6'wa : wa.cell? ⟨bv', ov + 6, none⟩ = some (.int .u64 g0) := by rw [hwa.out]; exact d6'
              have d7'wa : wa.cell? ⟨bv', ov + 7, none⟩ = some (.int .u64 h0) := by rw [hwa.out]; exact d7'
              rw [← hwa.out]
              go_wp2_with fail
              refine wp_region_still_tail 28 (by kernel_rfl) (by kernel_rfl) ?_
              simp only [List.take_succ_cons, List.take_zero, List.drop_succ_cons, List.drop_zero]
              repeat still_step
              still_call (stillC (f132_28 _ _))
              repeat still_step
              still_call (stillC (f132_34 _ _))
              repeat still_step
              still_call (stillC (f132_39 _ _))
              repeat still_step
              refine wpStill_nil ?_
              change wpList _ _ _ _ _ wa.drew
              obtain ⟨wb, hwb⟩ : ∃ wb, Eqn wb wa.drew := ⟨_, ⟨rfl⟩⟩
              have d0'wb : wb.cell? ⟨bv', ov, none⟩ = some (.int .u64 a0) := by rw [hwb.out]; exact d0'wa
              have d1'wb : wb.cell? ⟨bv', ov + 1, none⟩ = some (.int .u64 b0) := by rw [hwb.out]; exact d1'wa
              have d2'wb : wb.cell? ⟨bv', ov + 2, none⟩ = some (.int .u64 c0) := by rw [hwb.out]; exact d2'wa
              have d3'wb : wb.cell? ⟨bv', ov + 3, none⟩ = some (.int .u64 d0) := by rw [hwb.out]; exact d3'wa
              have d4'wb : wb.cell? ⟨bv', ov + 4, none⟩ = some (.int .u64 e0) := by rw [hwb.out]; exact d4'wa
              have d5'wb : wb.cell? ⟨bv', ov + 5, none⟩ = some (.int .u64 f0) := by rw [hwb.out]; exact d5'wa
              have d6'wb : wb.cell? ⟨bv', ov + 6, none⟩ = some (.int .u64 g0) := by rw [hwb.out]; exact d6'wa
              have d7'wb : wb.cell? ⟨bv', ov + 7, none⟩ = some (.int .u64 h0) := by rw [hwb.out]; exact d7'wa
              rw [← hwb.out]
              go_wp2_with fail
              refine wp_region_still_tail 26 (by kernel_rfl) (by kernel_rfl) ?_
              simp only [List.take_succ_cons, List.take_zero, List.drop_succ_cons, List.drop_zero]
              repeat still_step
              refine wpStill_nil ?_
              change wpList _ _ _ _ _ wb.drew
              go_wp2_with fail
              go_roundw
              case measure => simp [intOf]; omega
              case rel =>
                have hwb9 : IB wb.drew B 107 .u64 S := by rw [hwb.out, hwa.out]; exact hw.drew.drew.drew
                have hKb9 : Keep w B g (some ⟨bp, op, none⟩) nn c' Q 107 .u64 (some ⟨bk, ok, none⟩) 80 ck k512 V wb.drew := by rw [hwb.out, hwa.out]; exact hKp.drew.drew.drew
                have hwbz : w.heap.size ≤ wb.heap.size := hKb9.mods.size
                have hS9 := (own_lit wb.drew ((rd512 kt x [a0, b0, c0, d0, e0, f0, g0, h0]).map (Value.int .u64)) 107 8 rfl (by simp only [maxLen]; omega)).toSv
                refine ⟨s + 1, some ⟨wb.heap.size, 0, none⟩, 8, by omega, by go_num, rfl, (new_alloc wb).mono hwbz, ?_, ?_, ?_⟩
                · rw [rounds512, HE.out, ← hkt.out, ← hx.out]
                  rw [← rd512_of] at hS9 ⊢
                  exact hS9
                · exact hwb9.alloc _
                · exact hKb9.alloc _
            · obtain rfl : s = 80 := by omega
              obtain ⟨R, hR⟩ : ∃ R, Eqn R (rounds512 S V 80) := ⟨_, ⟨rfl⟩⟩
              have hRl : Eqn R.length 8 := ⟨by rw [hR.out]; exact length_rounds512 _ _ hVl.out _⟩
              rw [← hR.out] at hv
              have hZl : Eqn (List.zipWith a64 V R).length V.length := ⟨by simp [hVl.out, hRl.out]⟩
              have hvc := hv.le
              obtain ⟨bv', ov, rfl⟩ := hv.addr (by omega)
              have hnb : ∀ i, In (some (⟨bv', ov, none⟩ : Addr)) i → ¬ i = g := by rintro i ⟨ad, e, hb⟩; have := hNv ad e; omega
              clear hw h64 hs
              go_wp2_with fail
              go_loopw [17] (fun i w4 => ∃ s : Nat, s ≤ 8 ∧ i = .int .i64 s ∧ Sv w4 107 1 (some ⟨bv', ov, none⟩) 8 cv (R.map (Value.int .u64)) ∧ Keep w B g (some ⟨bp, op, none⟩) nn c' Q 107 .u64 ak 80 ck k512 ((List.zipWith a64 V R).take s ++ V.drop s) w4) (fun i _ => 8 - (intOf i).toNat)
              case atStart => exact ⟨0, by omega, rfl, hv, by simpa using hKp⟩
              case round =>
                clear hv hKp
                obtain ⟨s, hs, rfl, hv, hKp⟩ := hrel
                by_cases h8' : s < 8
                · obtain ⟨y, hy, dy⟩ := hKp.hv.cell s (by simp [hVl.out, hRl.out]; omega)
                  obtain ⟨x, hx⟩ : ∃ x, Eqn x (R.getD s 0) := ⟨_, ⟨rfl⟩⟩
                  have dx : wr.cell? ⟨bv', ov + s, none⟩ = some (.int .u64 x) := hv.cell (by rw [hx.out]; simp [hRl.out, h8', List.getD])
                  have hf := hKp.hv.free s
                  have q0 : (0 : Int) ≤ s := by omega
                  have q1 : (s : Int) < 8 := by omega
                  go_wp2_with fail
                  go_region
                  go_wp2_with fail
                  go_roundw
                  case measure => simp [intOf]; omega
                  case rel =>
                    have htl : s < V.length := by rw [hVl.out]; exact h8'
                    have hy2 : y = V.getD s 0 := by
                      rw [hy.out]
                      simp only [List.getD]
                      rw [List.getElem?_append_right (by simp [hZl.out]; omega)]
                      simp [hZl.out, Nat.min_eq_left (Nat.le_of_lt htl)]
                    have hRR : (List.zipWith a64 V R)[s]? = some (IntKind.u64.wrap (y + x)) := by
                      have htV : s < R.length := by rw [hRl.out]; exact h8'
                      rw [hy2, hx.out, List.getElem?_zipWith]
                      simp [htl, htV, List.getD, a64]
                    have hm9 := (Mods.refl (fun i => i = g) wr).setCell (p := ⟨g, s, none⟩) (.inl rfl) (.int .u64 (IntKind.u64.wrap (y + x)))
                    refine ⟨s + 1, by omega, by go_num, (hv.mods hm9 hnb).mods ((Mods.refl Nix _).drew) (fun _ _ f => f), ?_⟩
                    have h9 := hKp.put s (IntKind.u64.wrap (y + x))
                    rw [set_over _ V s _ hZl.out htl hRR] at h9
                    exact h9.drew
                · obtain rfl : s = 8 := by omega
                  have e : take512 V blk = (List.zipWith a64 V R).take 8 ++ V.drop 8 := by
                    rw [List.take_of_length_le (by rw [hZl.out, hVl.out]; exact Nat.le_refl _), List.drop_eq_nil_of_le (by rw [hVl.out]; exact Nat.le_refl _), List.append_nil, take512, ← hS6.out, ← hR.out]
                  rw [← e] at hKp
                  clear e
                  have hcn := hKp.blk.le
                  go_wp2_with (first | (with_reducible refine wpList_sub rfl (.tmp 27) (some (.const (.int .i64 128))) none none ei22 rfl rfl hKp.blk 128 nn c' hn64 (Nat.le_refl _) hcn (Nat.le_refl _) (bounds_from _ _ _ _ h128 hn64 hcn _ _) ?_; intro a9 hS9))
                  go_roundw
                  case measure => simp only [lenV]; omega
                  case rel =>
                    refine ⟨t + 1, nn - 128, a9, c' - 128, h8, ⟨by have := hnn.out; omega⟩, rfl, ?_, fun i hi => (hKp.ap0 i (hS9.sub i hi)).1, ?_, hKp.tab, hKp.mods⟩
                    · have h9 := hS9.sv
                      rw [bv_drop, hQ.out, List.drop_drop, bv_take, List.take_of_length_le (by have := hQl.out; rw [hQ.out] at this; simp at this ⊢; omega)] at h9
                      rw [show 128 * (t + 1) = 128 * t + 128 * 1 from by omega]
                      exact h9
                    · have h9 := hKp.hv
                      rw [eat64, ← hVV.out, piece, ← hQ.out, ← hblk.out]
                      exact h9
    · obtain rfl : t = N := by omega
      have hn0 : nn = 0 := by have := hnn.out; omega
      subst hn0
      have e : t = (l ++ padd 128 16 l.length).length / 128 := by rw [← hP.out, hPl.out, hN.out]; omega
      obtain ⟨H, hH⟩ : ∃ H, Eqn H (eat64 v P t) := ⟨_, ⟨rfl⟩⟩
      have hHl : Eqn H.length 8 := ⟨by rw [hH.out]; exact length_eat64 _ _ hvl.out _⟩
      rw [← hH.out] at hV
      have hE := Eqn.mk e
      clear e
      go_wp2_with fail
      go_loopw [18, 19] (fun o i w5 => ∃ (s : Nat) (a' : Option Addr) (c' : Nat), s ≤ 8 ∧ i = .int .i64 s ∧ o = .slice a' (8 * s) c' ∧ Own w5 5 1 a' (8 * s) c' (bv ((H.take s).flatMap en8)) ∧ New w.heap.size a' ∧ IB w5 g 107 .u64 H ∧ Mods (fun i => i = g) w w5) (fun _ i _ => 8 - (intOf i).toNat)
      case atStart => exact ⟨0, none, 0, by omega, rfl, rfl, own_nil _, New.none _, hV, hM⟩
      case round =>
        clear hV hM hK hD
        obtain ⟨s, a', c', hs, rfl, rfl, hO, hN9, hV, hM⟩ := hrel
        by_cases h8' : s < 8
        · obtain ⟨x, hx, dx⟩ := hV.cell s (by rw [hHl.out]; omega)
          have q0 : (0 : Int) ≤ s := by omega
          have q1 : (s : Int) < 8 := by omega
          go_wp2_with fail
          refine wp_region_still_tail 11 (by kernel_rfl) (by kernel_rfl) ?_
          simp only [List.take_succ_cons, List.take_zero, List.drop_succ_cons, List.drop_zero]
          repeat still_step
          refine wpStill_nil ?_
          change wpList _ _ _ _ _ wr.drew
          have hL2 := (own_lit wr ([x / 4294967296 % 4294967296, x % 4294967296].map (Value.int .u32)) 104 2 rfl (by simp only [maxLen]; omega)).toSv
          have T6 := f128 ((wr.alloc (.cells #[.int .u32 (x / 4294967296 % 4294967296), .int .u32 (x % 4294967296)] 104)).drew) _ 2 2 _ (hL2.mods ((Mods.refl Nix _).drew) (fun _ _ f => f)) (by omega)
          have hL9 : Lim (8 * s + 4 * 2) := ⟨by omega⟩
          have hA8 : ∀ {w7 : World} {a7 : Option Addr} {c7 : Nat}, SumOut ((wr.alloc (.cells #[.int .u32 (x / 4294967296 % 4294967296), .int .u32 (x % 4294967296)] 104)).drew) w7 a7 (4 * 2) c7 ([x / 4294967296 % 4294967296, x % 4294967296].flatMap en4) → Own w7 5 1 a' (8 * s) c' (bv ((H.take s).flatMap en8)) := fun h => hO.mods (((Mods.refl Nix wr).alloc _).drew.trans' h.mods (fun _ _ f => f)) (fun _ _ f => f)
          go_wp2_with (first | (go_at_call 128; refine T6.mono ?_; rintro e w7 ⟨a7, c7, rfl, hS7⟩; have hO7 := hA8 hS7; have hS8 := hS7.own.toSv) | (at_builtin; refine wpList_app rfl (.tmp 229) (.tmp 230) ei22 rfl hO7 hS8 rfl rfl (bv_one _) (lim_app hL9) hL9.maxLen ?_; intro a8 c8 w8 hO8))
          have hM7 : Mods Nix wr w7 := ((Mods.refl Nix wr).alloc _).drew.trans' hS7.mods (fun _ _ f => f)
          have hz7 : w.heap.size ≤ wr.heap.size := hM.size
          have hM8 : Mods (fun i => w.heap.size ≤ i) wr w8 := (hM7.mono (fun _ _ f => f.elim)).trans' hO8.mods (fun i hi ⟨ad, e, hb⟩ => by have := hN9 ad e; omega)
          clear q0 q1
          go_roundw
          case measure => simp [intOf]; omega
          case rel =>
            refine ⟨s + 1, a8, c8, by omega, by go_num, by rw [show 8 * (s + 1) = 8 * s + 4 * 2 from by omega], ?_, hO8.new hN9 (by have := hM7.size; omega), hV.mods hM8 (by omega), hM.trans' hM8 (fun i hi hb => by omega)⟩
            have h9 := hO8.own
            have e8 : (H.take (s + 1)).flatMap en8 = (H.take s).flatMap en8 ++ [x / 4294967296 % 4294967296, x % 4294967296].flatMap en4 := by
              have e7 : H.take (s + 1) = H.take s ++ [H.getD s 0] := by rw [List.take_add_one]; simp [hHl.out, h8', List.getD]
              rw [e7, List.flatMap_append, ← hx.out]
              simp only [List.flatMap_cons, List.flatMap_nil, List.append_nil, en8_split x]
            rw [e8, bv_append, show 8 * (s + 1) = 8 * s + 4 * 2 from by omega]
            exact h9
        · obtain rfl : s = 8 := by omega
          go_wp2_with fail
          go_ret
          refine ⟨a', c', rfl, ?_, hN9, hM⟩
          rw [← hE.out, ← hP.out, ← hH.out]
          rw [List.take_of_length_le (by rw [hHl.out]; exact Nat.le_refl _)] at hO
          exact hO
end Go.Proofs.YtladijfaeieidaaDoor
