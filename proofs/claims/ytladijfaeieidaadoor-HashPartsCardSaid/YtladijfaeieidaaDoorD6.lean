/- Contracts of the reference hashes: SHA-1. Conditions: a length that an append may come to. -/
import Derived.Test.YtladijfaeieidaaDoorD4
namespace Go.Proofs.YtladijfaeieidaaDoor
open Go.RowKit

/-- The state after t blocks. -/
def eat1 (v m : List Int) : Nat → List Int
  | 0 => v
  | t + 1 => take1 (eat1 v m t) (piece m 64 t)
theorem length_eat1 (v m : List Int) (h : v.length = 5) : ∀ t, (eat1 v m t).length = 5
  | 0 => h
  | t + 1 => length_take1 _ _ (length_eat1 v m h t)
theorem u32w (x : Int) : IntKind.u32.wrap x = x % 4294967296 := by simp [IntKind.wrap, IntKind.bits, IntKind.signed]
def iv1 : List Int := [1732584193, 4023233417, 2562383102, 271733878, 3285377520]
theorem hq1a : 4 * 80 ≤ 281474976710656 := by omega
set_option maxRecDepth 100000 in
set_option maxHeartbeats 8000000 in
theorem f86 (w : World) (a : Option Addr) (n c : Nat) (l : List Int) (hs : Sv w 5 1 a n c (bv l)) (hl : Lim (n + 300)) (hB : Byt l) :
    Calls Tryd.prog 86 #[.slice a n c] w fun e w' => ∃ a' c', e = .returned (.slice a' 20 c') ∧ SumOut w w' a' 20 c' ((eat1 iv1 (l ++ padd 64 8 l.length) ((l ++ padd 64 8 l.length).length / 64)).flatMap en4) := by
  have hnl : Eqn l.length n := ⟨by have := hs.len; simpa [bv] using this⟩
  have T2 : ∀ {w1}, Mods Nix w w1 → Calls Tryd.prog 125 #[.slice a n c, .int .i64 64, .int .i64 8] w1 fun e w' => ∃ a' k' c', e = .returned (.slice a' k' c') ∧ Eqn k' (l ++ padd 64 8 l.length).length ∧ SumOut w1 w' a' k' c' (l ++ padd 64 8 l.length) := fun hM => (f125_64 _ a n c l (hs.mods hM (fun _ _ f => f)) hl).mono (fun e w' ⟨a', k', c', h1, h2, h3⟩ => ⟨a', k', c', h1, ⟨h2⟩, h3⟩)
  go_enter Tryd.func86, Tryd.ntmps86
  go_upto_region 2 with (fail)
  obtain ⟨w1, hw1⟩ : ∃ w1, Eqn w1 (w.alloc (.cells (iv1.map (Value.int .u32)).toArray 104)) := ⟨_, ⟨rfl⟩⟩
  have hI0 : IB w1 w.heap.size 104 .u32 iv1 := by rw [hw1.out]; exact IB.new w iv1 .u32 104
  change Code.wp _ _ _ _ (w.alloc (.cells (iv1.map (Value.int .u32)).toArray 104))
  rw [← hw1.out]
  have hM01 : Mods Nix w w1 := by rw [hw1.out]; exact alloc_mods _ _
  have hz1 : Eqn w1.heap.size (w.heap.size + 1) := ⟨by rw [hw1.out]; simp⟩
  obtain ⟨g, hgg⟩ : ∃ g, Eqn g w.heap.size := ⟨_, ⟨rfl⟩⟩
  rw [← hgg.out] at hI0 ⊢
  have T3 := T2 hM01
  go_wp2_with (go_at_call 125; refine T3.mono ?_; rintro e w2 ⟨ap, np, cp, rfl, hnp, hS⟩)
  obtain ⟨P, hP⟩ : ∃ P, Eqn P (l ++ padd 64 8 l.length) := ⟨_, ⟨rfl⟩⟩
  rw [← hP.out] at hS hnp
  obtain ⟨N, hN⟩ : ∃ N, Eqn np (64 * N) := ⟨np / 64, ⟨by rw [hnp.out, hP.out]; have := padd_len64 l; omega⟩⟩
  have hPl : Eqn P.length np := ⟨hnp.out.symm⟩
  clear hnp T2 T3
  have hM2 : Mods Nix w1 w2 := hS.mods
  have hTab : ∀ w : World, Sv w 104 1 none 0 0 (([] : List Int).map (Value.int .u32)) := fun w => (Own.none w 104 1).toSv
  have hPB : Byt P := by rw [hP.out]; exact hB.app (byt_padd _ _ _)
  have hgw : g < w1.heap.size := by have := hgg.out; have := hz1.out; omega
  have hapN : ∀ i, In ap i → w1.heap.size ≤ i := by rintro i ⟨ad, e, rfl⟩; exact hS.fresh ad e
  have hakN : ∀ i, In none i → False := by rintro i ⟨ad, e, rfl⟩; cases e
  go_loopw [4] (fun o wr => ∃ (t nn : Nat) (a' : Option Addr) (c' : Nat), t ≤ N ∧ Eqn nn (64 * (N - t)) ∧ o = .slice a' nn c' ∧ Sv wr 5 1 a' nn c' (bv (P.drop (64 * t))) ∧ (∀ i, In a' i → w1.heap.size ≤ i) ∧ IB wr g 104 .u32 (eat1 iv1 P t) ∧ Mods (fun i => i = g) w1 wr) (fun o _ => lenV o)
  case atStart => 
    refine ⟨0, np, ap, cp, Nat.zero_le _, ⟨by rw [Nat.sub_zero, ← hN.out]⟩, rfl, ?_, hapN, hI0.mods hM2 (fun f => f), hM2.mono (fun _ _ f => f.elim)⟩
    simpa using hS.own.toSv
  case round =>
    obtain ⟨t, nn, a', c', ht, hnn, rfl, hD, hDN, hV, hM⟩ := hrel
    by_cases h8 : t < N
    · have hn64 : 64 ≤ nn := by have := hnn.out; omega
      have hpos : (0 : Int) < (nn : Nat) := by omega
      go_upto_region 6 with (first | (with_reducible refine wpList_mk rfl (.const (.int .i64 80)) (.const (.int .i64 80)) ei105 rfl rfl 80 rfl rfl h8080 h8080 hq1a hq80b ?_; intro _))
      have hcc := hD.le
      obtain ⟨bp, op, rfl⟩ := hD.addr (by omega)
      obtain ⟨W0, hW0⟩ : ∃ W0, Eqn W0 (wr.alloc (.cells (List.replicate 80 (.int .u32 0)).toArray 104)) := ⟨_, ⟨rfl⟩⟩
      change Code.wp _ _ _ _ (wr.alloc (.cells (List.replicate 80 (.int .u32 0)).toArray 104))
      rw [← hW0.out]
      have hW00 : IB W0 wr.heap.size 104 .u32 (List.replicate 80 0) := by rw [hW0.out]; exact IB.new wr (List.replicate 80 0) .u32 104
      have hMW : Mods Nix wr W0 := by rw [hW0.out]; exact alloc_mods _ _
      obtain ⟨B, hBB⟩ : ∃ B, Eqn B wr.heap.size := ⟨_, ⟨rfl⟩⟩
      rw [← hBB.out] at hW00 ⊢
      have hwB : w1.heap.size ≤ B := by rw [hBB.out]; exact hM.size
      obtain ⟨Q, hQ⟩ : ∃ Q, Eqn Q (P.drop (64 * t)) := ⟨_, ⟨rfl⟩⟩
      rw [← hQ.out] at hD
      have hQl : Eqn Q.length nn := ⟨by have := hD.len; simpa [bv] using this⟩
      have hQB : Byt Q := by rw [hQ.out]; exact hPB.drop _
      obtain ⟨blk, hblk⟩ : ∃ blk, Eqn blk (Q.take 64) := ⟨_, ⟨rfl⟩⟩
      obtain ⟨V, hVV⟩ : ∃ V, Eqn V (eat1 iv1 P t) := ⟨_, ⟨rfl⟩⟩
      rw [← hVV.out] at hV
      have hVl : Eqn V.length 5 := ⟨by rw [hVV.out]; exact length_eat1 _ _ rfl _⟩
      have hKp0 : Keep w1 B g (some ⟨bp, op, none⟩) nn c' Q 104 .u32 none 0 0 [] V wr := ⟨hD, hV, hTab _, hM, hgw, fun i hi => ⟨hDN i hi, by obtain ⟨ad, e, rfl⟩ := hi; have := hD.lt ad e; have := hBB.out; omega⟩, fun i hi => (hakN i hi).elim, hwB⟩
      have hKp := hKp0.nix hMW
      clear hKp0 hD hV hM hW0 hMW hTab hakN
      go_wp2_with fail
      go_loopw [6] (fun i w2 => ∃ s : Nat, s ≤ 80 ∧ i = .int .i64 s ∧ IB w2 B 104 .u32 (sched 4 nw1 blk s ++ List.replicate (80 - s) 0) ∧ Keep w1 B g (some ⟨bp, op, none⟩) nn c' Q 104 .u32 none 0 0 [] V w2) (fun i _ => 80 - (intOf i).toNat)
      case atStart => exact ⟨0, by omega, rfl, hW00, hKp⟩
      case round =>
        clear hW00 hKp
        obtain ⟨s, hs, rfl, hw, hKp⟩ := hrel
        have hsl := Eqn.mk (length_sched 4 nw1 blk s)
        by_cases h64 : s < 80
        · by_cases h16 : s < 16
          ·
            obtain ⟨x0, _, hx0⟩ := hw.cell s (by simp [hsl.out]; omega)
            have hf := hw.free s
            have hgt := word (w := wr) (a := some ⟨bp, op + 4 * s, none⟩) (n := nn - 4 * s) (c := c' - 4 * s) (l := Q.drop (4 * s)) (by rw [← bv_drop]; exact hKp.blk.tail _ (by omega) (by omega)) (by rw [List.length_drop, hQl.out]) (by omega) (hQB.drop _)
            go_wp2_with (go_at_call 126; refine hgt.mono ?_; rintro e w' ⟨rfl, nq, rfl⟩)
            go_roundw
            case measure => simp [intOf]; omega
            case rel =>
              refine ⟨s + 1, by omega, by go_num, ?_, ?_⟩
              · exact sched_put (hw.drewN _) (by omega) (by rw [if_pos h16, hblk.out, blk_word Q s h16])
              · exact (hKp.drewN _).cell _ _
          ·
            obtain ⟨k, rfl⟩ : ∃ k, s = k + 16 := ⟨s - 16, by omega⟩
            obtain ⟨x3, E3, hx3⟩ := hw.cell (k + 13) (by simp [hsl.out]; omega)
            obtain ⟨x8, E8, hx8⟩ := hw.cell (k + 8) (by simp [hsl.out]; omega)
            obtain ⟨x14, E14, hx14⟩ := hw.cell (k + 2) (by simp [hsl.out]; omega)
            obtain ⟨x16, E16, hx16⟩ := hw.cell k (by simp [hsl.out]; omega)
            obtain ⟨x0, _, hx0⟩ := hw.cell (k + 16) (by simp [hsl.out]; omega)
            have hf := hw.free (k + 16)
            go_wp2_with fail
            have q0 : (0 : Int) ≤ k := by omega
            have q1 : (k : Int) < 80 := by omega
            have q2 : IntKind.i64.wrap (k : Int) = k := IntWalk.i64_in _ (by omega)
            have q3 : IntKind.i64.wrap ((k : Int) + 16 - 3) = (k : Int) + 13 := by
              rw [IntWalk.i64_in _ (by omega)]; omega
            have q4 : (0 : Int) ≤ (k : Int) + 13 := by omega
            have q5 : (k : Int) + 13 < 80 := by omega
            have q6 : ((k : Int) + 13).toNat = k + 13 := by omega
            have q7 : IntKind.i64.wrap ((k : Int) + 16 - 8) = (k : Int) + 8 := by
              rw [IntWalk.i64_in _ (by omega)]; omega
            have q8 : (0 : Int) ≤ (k : Int) + 8 := by omega
            have q9 : (k : Int) + 8 < 80 := by omega
            have q10 : ((k : Int) + 8).toNat = k + 8 := by omega
            have q11 : IntKind.i64.wrap ((k : Int) + 16 - 14) = (k : Int) + 2 := by
              rw [IntWalk.i64_in _ (by omega)]; omega
            have q12 : (0 : Int) ≤ (k : Int) + 2 := by omega
            have q13 : (k : Int) + 2 < 80 := by omega
            have q14 : ((k : Int) + 2).toNat = k + 2 := by omega
            refine wp_region_still_tail 26 (by kernel_rfl) (by kernel_rfl) ?_
            simp only [List.take_succ_cons, List.take_zero, List.drop_succ_cons, List.drop_zero]
            repeat still_step
            still_call (stillC (f127_1 _ _))
            refine wpStill_nil ?_
            change wpList _ _ _ _ _ wr.drew
            go_wp2_with fail
            clear q0 q1 q2 q3 q4 q5 q6 q7 q8 q9 q10 q11 q12 q13 q14
            go_roundw
            case measure => simp [intOf]; omega
            case rel =>
              refine ⟨k + 16 + 1, by omega, by go_num, ?_, hKp.drew.cell _ _⟩
              exact sched_put hw.drew (by omega) (by rw [if_neg (by omega)]; exact nw1_of hsl.out E3 E8 E14 E16)
        · obtain rfl : s = 80 := by omega
          obtain ⟨S, hS6⟩ : ∃ S, Eqn S (sched 4 nw1 blk 80) := ⟨_, ⟨rfl⟩⟩
          have hSl : Eqn S.length 80 := ⟨by rw [hS6.out]; exact hsl.out⟩
          rw [← hS6.out] at hw
          have hw' : IB wr B 104 .u32 S := by simpa using hw
          clear hw hsl hs h64
          obtain ⟨v0, v1, v2, v3, v4, hE⟩ := five V hVl.out
          have hVr := hKp.hv
          rw [hE] at hVr
          have HE := Eqn.mk hE
          clear hE
          have d0 : wr.cell? ⟨g, 0, none⟩ = some (.int .u32 v0) := hVr.row.cell rfl
          have d1 : wr.cell? ⟨g, 1, none⟩ = some (.int .u32 v1) := hVr.row.cell rfl
          have d2 : wr.cell? ⟨g, 2, none⟩ = some (.int .u32 v2) := hVr.row.cell rfl
          have d3 : wr.cell? ⟨g, 3, none⟩ = some (.int .u32 v3) := hVr.row.cell rfl
          have d4 : wr.cell? ⟨g, 4, none⟩ = some (.int .u32 v4) := hVr.row.cell rfl
          go_wp2_with fail
          go_quiet (fail)
          obtain ⟨W3, hW3⟩ : ∃ W3, Eqn W3 (wr.drewN nq) := ⟨_, ⟨rfl⟩⟩
          rw [← hW3.out]
          have d1' : W3.cell? ⟨g, 1, none⟩ = some (.int .u32 v1) := by rw [hW3.out]; exact d1
          have hKp3 : Keep w1 B g (some ⟨bp, op, none⟩) nn c' Q 104 .u32 none 0 0 [] V W3 := by rw [hW3.out]; exact hKp.drewN _
          have hw3 : IB W3 B 104 .u32 S := by rw [hW3.out]; exact hw'.drewN _
          clear d0 d1 d2 d3 d4 hKp hw' hVr
          go_wp2_with fail
          go_loopw [7, 8, 9, 10, 11, 12] (fun a c d e x i w3 => ∃ (s : Nat) (A X C D E : Int), s ≤ 80 ∧ i = .int .i64 s ∧ a = .int .u32 A ∧ x = .int .u32 X ∧ c = .int .u32 C ∧ d = .int .u32 D ∧ e = .int .u32 E ∧ Eqn (rounds1 S V s) [A, X, C, D, E] ∧ IB w3 B 104 .u32 S ∧ Keep w1 B g (some ⟨bp, op, none⟩) nn c' Q 104 .u32 none 0 0 [] V w3) (fun _ _ _ _ _ i _ => 80 - (intOf i).toNat)
          case atStart => exact ⟨0, _, _, _, _, _, by omega, rfl, rfl, rfl, rfl, rfl, rfl, ⟨by rw [rounds1, HE.out]⟩, hw3, hKp3⟩
          case round =>
            clear d1' hw3 hKp3
            obtain ⟨s, A, X, C, D, E, hs, rfl, rfl, rfl, rfl, rfl, rfl, hE, hw, hKp⟩ := hrel
            by_cases h64 : s < 80
            · obtain ⟨x, hx⟩ : ∃ x, Eqn x (S.getD s 0) := ⟨_, ⟨rfl⟩⟩
              have dx : wr.cell? ⟨B, s, none⟩ = some (.int .u32 x) := hw.row.cell (by rw [hx.out]; simp [hSl.out, h64, List.getD])
              have q0 : (0 : Int) ≤ s := by omega
              have q1 : (s : Int) < 80 := by omega
              by_cases h20 : s < 20
              · go_wp2_with fail
                refine wp_region_still_tail 13 (by kernel_rfl) (by kernel_rfl) ?_
                simp only [List.take_succ_cons, List.take_zero, List.drop_succ_cons, List.drop_zero]
                repeat still_step
                still_call (stillC (f127_5 _ _))
                repeat still_step
                refine wpStill_nil ?_
                change wpList _ _ _ _ _ wr.drew
                go_wp2_with (go_at_call 127; (with_reducible refine (f127_30 _ _).mono ?_); rintro e w' ⟨rfl, rfl⟩)
                go_roundw
                case measure => simp [intOf]; omega
                case rel =>
                  (repeat apply Exists.intro)
                  refine ⟨⟨s + 1, _, _, _, _, _, by omega, by go_num, rfl, rfl, rfl, rfl, rfl, ⟨?_⟩, hw.drew, hKp.drew⟩, rfl⟩
                  rw [rounds1, hE.out, ← hx.out, rd1]
                  simp only [a32, f1, k1, if_pos h20, not32, u32w, List.getD_cons_zero, List.getD_cons_succ, Int.emod_add_emod]
                  try rfl
              by_cases h40 : s < 40
              · go_wp2_with fail
                refine wp_region_still_tail 13 (by kernel_rfl) (by kernel_rfl) ?_
                simp only [List.take_succ_cons, List.take_zero, List.drop_succ_cons, List.drop_zero]
                repeat still_step
                still_call (stillC (f127_5 _ _))
                repeat still_step
                refine wpStill_nil ?_
                change wpList _ _ _ _ _ wr.drew
                go_wp2_with (go_at_call 127; (with_reducible refine (f127_30 _ _).mono ?_); rintro e w' ⟨rfl, rfl⟩)
                go_roundw
                case measure => simp [intOf]; omega
                case rel =>
                  (repeat apply Exists.intro)
                  refine ⟨⟨s + 1, _, _, _, _, _, by omega, by go_num, rfl, rfl, rfl, rfl, rfl, ⟨?_⟩, hw.drew, hKp.drew⟩, rfl⟩
                  rw [rounds1, hE.out, ← hx.out, rd1]
                  simp only [a32, f1, k1, if_neg h20, if_pos h40, not32, u32w, List.getD_cons_zero, List.getD_cons_succ, Int.emod_add_emod]
                  try rfl
              by_cases h60 : s < 60
              · go_wp2_with fail
                refine wp_region_still_tail 13 (by kernel_rfl) (by kernel_rfl) ?_
                simp only [List.take_succ_cons, List.take_zero, List.drop_succ_cons, List.drop_zero]
                repeat still_step
                still_call (stillC (f127_5 _ _))
                repeat still_step
                refine wpStill_nil ?_
                change wpList _ _ _ _ _ wr.drew
                go_wp2_with (go_at_call 127; (with_reducible refine (f127_30 _ _).mono ?_); rintro e w' ⟨rfl, rfl⟩)
                go_roundw
                case measure => simp [intOf]; omega
                case rel =>
                  (repeat apply Exists.intro)
                  refine ⟨⟨s + 1, _, _, _, _, _, by omega, by go_num, rfl, rfl, rfl, rfl, rfl, ⟨?_⟩, hw.drew, hKp.drew⟩, rfl⟩
                  rw [rounds1, hE.out, ← hx.out, rd1]
                  simp only [a32, f1, k1, if_neg h20, if_neg h40, if_pos h60, not32, u32w, List.getD_cons_zero, List.getD_cons_succ, Int.emod_add_emod]
                  try rfl
              · go_wp2_with fail
                refine wp_region_still_tail 13 (by kernel_rfl) (by kernel_rfl) ?_
                simp only [List.take_succ_cons, List.take_zero, List.drop_succ_cons, List.drop_zero]
                repeat still_step
                still_call (stillC (f127_5 _ _))
                repeat still_step
                refine wpStill_nil ?_
                change wpList _ _ _ _ _ wr.drew
                go_wp2_with (go_at_call 127; (with_reducible refine (f127_30 _ _).mono ?_); rintro e w' ⟨rfl, rfl⟩)
                go_roundw
                case measure => simp [intOf]; omega
                case rel =>
                  (repeat apply Exists.intro)
                  refine ⟨⟨s + 1, _, _, _, _, _, by omega, by go_num, rfl, rfl, rfl, rfl, rfl, ⟨?_⟩, hw.drew, hKp.drew⟩, rfl⟩
                  rw [rounds1, hE.out, ← hx.out, rd1]
                  simp only [a32, f1, k1, if_neg h20, if_neg h40, if_neg h60, not32, u32w, List.getD_cons_zero, List.getD_cons_succ, Int.emod_add_emod]
                  try rfl
            · obtain rfl : s = 80 := by omega
              have hVr := hKp.hv
              rw [HE.out] at hVr
              have d0 : wr.cell? ⟨g, 0, none⟩ = some (.int .u32 v0) := hVr.row.cell rfl
              have d1 : wr.cell? ⟨g, 1, none⟩ = some (.int .u32 v1) := hVr.row.cell rfl
              have d2 : wr.cell? ⟨g, 2, none⟩ = some (.int .u32 v2) := hVr.row.cell rfl
              have d3 : wr.cell? ⟨g, 3, none⟩ = some (.int .u32 v3) := hVr.row.cell rfl
              have d4 : wr.cell? ⟨g, 4, none⟩ = some (.int .u32 v4) := hVr.row.cell rfl
              have f0 := hVr.free 0
              have f1 := hVr.free 1
              have f2 := hVr.free 2
              have f3 := hVr.free 3
              have f4 := hVr.free 4
              have hK5 := ((((hKp.put 0 ((v0 + A) % 4294967296)).put 1 ((v1 + X) % 4294967296)).put 2 ((v2 + C) % 4294967296)).put 3 ((v3 + D) % 4294967296)).put 4 ((v4 + E) % 4294967296)
              have e : ((((V.set 0 ((v0 + A) % 4294967296)).set 1 ((v1 + X) % 4294967296)).set 2 ((v2 + C) % 4294967296)).set 3 ((v3 + D) % 4294967296)).set 4 ((v4 + E) % 4294967296) = take1 V blk := by
                rw [take1, ← hS6.out, hE.out, HE.out]
                rfl
              rw [e] at hK5
              clear e hVr
              have hcn := hKp.blk.le
              go_wp2_with (first | (with_reducible refine wpList_sub rfl (.tmp 22) (some (.const (.int .i64 64))) none none ei22 rfl rfl hK5.blk 64 nn c' hn64 (Nat.le_refl _) hcn (Nat.le_refl _) (bounds_from _ _ _ _ h6464 hn64 hcn _ _) ?_; intro a9 hS9))
              go_roundw
              case measure => simp only [lenV]; omega
              case rel =>
                refine ⟨t + 1, nn - 64, a9, c' - 64, h8, ⟨by have := hnn.out; omega⟩, rfl, ?_, fun i hi => (hK5.ap0 i (hS9.sub i hi)).1, ?_, hK5.mods⟩
                · have h9 := hS9.sv
                  rw [bv_drop, hQ.out, List.drop_drop, bv_take, List.take_of_length_le (by have := hQl.out; rw [hQ.out] at this; simp at this ⊢; omega)] at h9
                  rw [show 64 * (t + 1) = 64 * t + 64 * 1 from by omega]
                  exact h9
                · have h9 := hK5.hv
                  rw [eat1, ← hVV.out, piece, ← hQ.out, ← hblk.out]
                  exact h9
    · obtain rfl : t = N := by omega
      have hn0 : nn = 0 := by have := hnn.out; omega
      subst hn0
      have e : t = (l ++ padd 64 8 l.length).length / 64 := by rw [← hP.out, hPl.out, hN.out]; omega
      have hVl : Eqn (eat1 iv1 P t).length 5 := ⟨length_eat1 _ _ rfl _⟩
      have hVS := hV.sv hVl.out (by simp only [maxLen]; omega)
      have T5 := f128 wr _ 5 5 _ hVS (by omega)
      have hE := Eqn.mk e
      clear e
      go_wp2_with (go_at_call 128; refine T5.mono ?_; rintro e9 w9 ⟨a9, c9, rfl, hS9⟩)
      go_ret
      refine ⟨a9, c9, rfl, ?_, hS9.fresh.mono (by have := hM.size; have := hz1.out; omega), ?_⟩
      · rw [← hE.out, ← hP.out]
        exact hS9.own
      · exact (hM01.trans' hM (fun i hi e => by have := hgg.out; omega)).trans' hS9.mods (fun _ _ f => f)
end Go.Proofs.YtladijfaeieidaaDoor
