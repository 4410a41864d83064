/- The walk of the program's SHA-1 over one block: it computes take1 on the first five words and leaves the others. Conditions: the state lies in a row of its own, the block has 64 bytes, the table of constants stands. -/
import Derived.Test.YtladijfaeieidaaDoorH1
import Derived.StillTailTactics
namespace Go.Proofs.YtladijfaeieidaaDoor
open Go.RowKit

theorem nw1_of {s r : List Int} {k : Nat} (hl : s.length = k + 16) {x3 x8 x14 x16 : Int} (e3 : Eqn x3 ((s ++ r).getD (k + 13) 0)) (e8 : Eqn x8 ((s ++ r).getD (k + 8) 0)) (e14 : Eqn x14 ((s ++ r).getD (k + 2) 0)) (e16 : Eqn x16 ((s ++ r).getD k 0)) :
    q32_1 (bits .xor .u32 (bits .xor .u32 (bits .xor .u32 x3 x8) x14) x16) = nw1 s (k + 16) := by
  rw [e3.out, e8.out, e14.out, e16.out, getD_front _ _ _ (by omega), getD_front _ _ _ (by omega), getD_front _ _ _ (by omega), getD_front _ _ _ (by omega)]
  simp only [nw1, show k + 16 - 16 = k from by omega, show k + 16 - 3 = k + 13 from by omega, show k + 16 - 8 = k + 8 from by omega, show k + 16 - 14 = k + 2 from by omega]

theorem c168 : Tryd.prog.cellsOf 168 = 80 := by kernel_rfl
theorem i168 : (Tryd.prog.info? 168).isSome = true := by kernel_rfl

set_option maxRecDepth 100000 in
set_option maxHeartbeats 2000000 in
theorem f133 (bh : Nat) (kd : Int) (hs : List Int) (wt cn : Value) (hlen : hs.length = 8) (blk : List Int) (hblk : blk.length = 64) (hB : Byt blk) (a : Option Addr) (c : Nat) (w : World)
  (hp : Sv w 5 1 a 64 c (bv blk)) (hh : RB w bh 112 (hst kd hs wt cn)) (hk : GK w) :
  Calls Tryd.prog 133 #[.pointer (some ⟨bh, 0, none⟩), .slice a 64 c] w fun e w' => e = .returned (.tuple #[]) ∧
    RB w' bh 112 (hst kd (take1 ((hs.take 5).map c32) blk ++ hs.drop 5) wt cn) ∧ Mods (fun k => k = bh) w w' := by
  have hbh := hh.lt
  have hcc := hp.le
  obtain ⟨bp, op, rfl⟩ := hp.addr (by omega)
  have hbp := hp.lt _ rfl
  go_enter Tryd.func133, Tryd.ntmps133
  go_wp2_with fail
  go_loopw [17] (fun i wr => ∃ t : Nat, t ≤ 80 ∧ i = .int .i64 t ∧ IB wr w.heap.size 168 .u32 (sched 4 nw1 blk t ++ List.replicate (80 - t) 0) ∧ Mods Nix w wr) (fun i _ => 80 - (intOf i).toNat)
  case atStart =>
    exact ⟨0, by omega, rfl, IB.new w (List.replicate 80 0) .u32 168, alloc_mods _ _⟩
  case round =>
    obtain ⟨t, ht, rfl, hw, hM⟩ := hrel
    have hsl := Eqn.mk (length_sched 4 nw1 blk t)
    have hsz := hM.size
    by_cases h64 : t < 80
    · by_cases h16 : t < 16
      · obtain ⟨x0, _, hx0⟩ := hw.cell t (by simp [hsl.out]; omega)
        have hf := hw.free t
        have hg := get32 (w := wr) (a := some ⟨bp, op + 4 * t, none⟩) (n := 64 - 4 * t) (c := c - 4 * t) (l := blk.drop (4 * t)) (by rw [← bv_drop]; exact (hp.mods hM (fun _ _ f => f)).tail _ (by omega) (by omega)) (by rw [List.length_drop]; omega) (by omega) (hB.drop _)
        go_wp2_with (go_at_call 139; refine hg.mono ?_; rintro e w' ⟨rfl, nq, rfl⟩)
        go_roundw
        case measure => simp [intOf]; omega
        case rel =>
          refine ⟨t + 1, by omega, by go_num, ?_, ?_⟩
          · exact sched_put (hw.drewN _) (by omega) (by rw [if_pos h16])
          · exact (hM.drewN _).setCell (.inr (Nat.le_refl _)) _
      · obtain ⟨k, rfl⟩ : ∃ k, t = k + 16 := ⟨t - 16, by omega⟩
        obtain ⟨x3, E3, hx3⟩ := hw.cell (k + 13) (by simp [hsl.out]; omega)
        obtain ⟨x8, E8, hx8⟩ := hw.cell (k + 8) (by simp [hsl.out]; omega)
        obtain ⟨x14, E14, hx14⟩ := hw.cell (k + 2) (by simp [hsl.out]; omega)
        obtain ⟨x16, E16, hx16⟩ := hw.cell k (by simp [hsl.out]; omega)
        obtain ⟨x0, _, hx0⟩ := hw.cell (k + 16) (by simp [hsl.out]; omega)
        have hf := hw.free (k + 16)
        go_wp2_with fail
        have h13 : IntKind.i64.wrap ((k : Int) + 16 - 3) = k + 13 := by rw [IntKind.wrap_i64]; omega
        have c13 : IntKind.i64.wrap ((k : Int) + 13) = k + 13 := by rw [IntKind.wrap_i64]; omega
        have d13 : ((k : Int) + 13).toNat = k + 13 := by omega
        have g13 : 0 ≤ (k : Int) + 13 := by omega
        have b13 : (k : Int) + 13 < 80 := by omega
        have h8 : IntKind.i64.wrap ((k : Int) + 16 - 8) = k + 8 := by rw [IntKind.wrap_i64]; omega
        have c8 : IntKind.i64.wrap ((k : Int) + 8) = k + 8 := by rw [IntKind.wrap_i64]; omega
        have d8 : ((k : Int) + 8).toNat = k + 8 := by omega
        have g8 : 0 ≤ (k : Int) + 8 := by omega
        have b8 : (k : Int) + 8 < 80 := by omega
        have h2 : IntKind.i64.wrap ((k : Int) + 16 - 14) = k + 2 := by rw [IntKind.wrap_i64]; omega
        have c2 : IntKind.i64.wrap ((k : Int) + 2) = k + 2 := by rw [IntKind.wrap_i64]; omega
        have d2 : ((k : Int) + 2).toNat = k + 2 := by omega
        have g2 : 0 ≤ (k : Int) + 2 := by omega
        have b2 : (k : Int) + 2 < 80 := by omega
        have c16 : IntKind.i64.wrap ((k : Int) + 16) = k + 16 := by rw [IntKind.wrap_i64]; omega
        have d16 : ((k : Int) + 16).toNat = k + 16 := by omega
        have g16 : 0 ≤ (k : Int) + 16 := by omega
        have b16 : (k : Int) + 16 < 80 := by omega
        have c0 : IntKind.i64.wrap (k : Int) = k := by rw [IntKind.wrap_i64]; omega
        have b0 : (k : Int) < 80 := by omega
        refine wp_region_still_tail 21 (by kernel_rfl) (by kernel_rfl) ?_
        simp only [List.take_succ_cons, List.take_zero, List.drop_succ_cons, List.drop_zero]
        repeat still_step
        still_call ((f151_l1 _ _).mono fun e w' h => ⟨h.1, h.2.symm⟩)
        refine wpStill_nil ?_
        change wpList _ _ _ _ _ wr.drew
        clear h13 h8 h2 c13 d13 g13 b13 c8 d8 g8 b8 c2 d2 g2 b2 d16 c16 c0 b0
        go_wp2_with fail
        go_roundw
        case measure => simp [intOf]; omega
        case rel =>
          refine ⟨k + 16 + 1, by omega, by go_num, ?_, ?_⟩
          · exact (sched_put hw (by omega) (by rw [if_neg (by omega)]; exact nw1_of hsl.out E3 E8 E14 E16)).drew
          · exact (hM.setCell (.inr (Nat.le_refl _)) _).drew
    · obtain rfl : t = 80 := by omega
      have hwB := hw.lt
      have hh1 := hh.mods hM (fun f => f)
      have hne := hk.ne hh
      obtain ⟨e0, e1, e2, e3, e4, e5, e6, e7, hse⟩ := eight hs hlen
      have d1 : wr.cell? ⟨bh, 1, none⟩ = some (.int .u64 e0) := hh1.cell (by rw [hse]; rfl)
      have d2 : wr.cell? ⟨bh, 1 + 1, none⟩ = some (.int .u64 e1) := hh1.cell (by rw [hse]; rfl)
      have d3 : wr.cell? ⟨bh, 1 + 2, none⟩ = some (.int .u64 e2) := hh1.cell (by rw [hse]; rfl)
      have d4 : wr.cell? ⟨bh, 1 + 3, none⟩ = some (.int .u64 e3) := hh1.cell (by rw [hse]; rfl)
      have d5 : wr.cell? ⟨bh, 1 + 4, none⟩ = some (.int .u64 e4) := hh1.cell (by rw [hse]; rfl)
      have Hse := Eqn.mk hse
      have Hlen := Eqn.mk hlen
      clear hse hlen
      obtain ⟨S, hS⟩ : ∃ S, S = sched 4 nw1 blk 80 := ⟨_, rfl⟩
      have hSl : S.length = 80 := by rw [hS]; exact hsl.out
      have hs2 : IB wr w.heap.size 168 .u32 S := by
        have h9 := hw
        rw [hS]; simpa using h9
      have HS := Eqn.mk hS
      have HSl := Eqn.mk hSl
      clear hS hSl hw
      go_wp2_with fail
      go_region
      have hs3 : IB wr.drew w.heap.size 168 .u32 S := hs2.drew
      have hh3 := hh1.drew
      have hM3 := hM.drew
      clear d1 d2 d3 d4 d5 hh1 hM hs2
      obtain ⟨W3, hW3⟩ : ∃ W3, wr.drew = W3 := ⟨_, rfl⟩
      rw [hW3]
      rw [hW3] at hs3 hh3 hM3
      clear hW3
      go_wp2_with (with_reducible refine wpList_arr rfl 168 (.tmp 4) rfl hs3.row rfl 80 104 Tryd.underlying168 (by simp [HSl.out, c168]) i168 ?_)
      go_loop [6, 7, 8, 9, 10, 83] (fun a b c d e i => ∃ (t : Nat) (A B C D E : Int), t ≤ 80 ∧ i = .int .i64 t ∧ a = .int .u32 A ∧ b = .int .u32 B ∧ c = .int .u32 C ∧ d = .int .u32 D ∧ e = .int .u32 E ∧ Eqn (rounds1 S ((hs.take 5).map c32) t) [A, B, C, D, E]) (fun _ _ _ _ _ i => 80 - (intOf i).toNat)
      case atStart => exact ⟨0, _, _, _, _, _, by omega, rfl, rfl, rfl, rfl, rfl, rfl, ⟨by rw [rounds1, Hse.out]; rfl⟩⟩
      case round =>
        obtain ⟨t, A, B, C, D, E, ht, rfl, rfl, rfl, rfl, rfl, rfl, hE⟩ := hrel
        by_cases h64 : t < 80
        · obtain ⟨x, hx⟩ : ∃ x, Eqn x (S.getD t 0) := ⟨_, ⟨rfl⟩⟩
          have Hxv : Eqn (S.map (Value.int .u32))[t]? (some (.int .u32 x)) := ⟨by rw [hx.out]; simp [HSl.out, h64, List.getD]⟩
          by_cases h20 : t < 20
          · have q : (t : Int) / 20 = 0 := by omega
            go_wp2_with (first | (with_reducible refine wpList_idx rfl 168 (.tmp 82) (.tmp 83) rfl 80 104 Tryd.underlying168 .u32 Tryd.underlying104 i104 t rfl rfl rfl h64 _ Hxv.out ?_) | (go_at_call 151; (first | (with_reducible refine (f151_l5 _ _).mono ?_) | (with_reducible refine (f151_l30 _ _).mono ?_)); rintro e w' ⟨rfl, rfl⟩))
            go_round
            case measure => simp [intOf]; omega
            case rel =>
              refine ⟨t + 1, _, _, _, _, _, by omega, by go_num, rfl, rfl, rfl, rfl, rfl, ⟨?_⟩⟩
              rw [rounds1, hE.out, ← hx.out, rd1]
              simp only [a32, f1, k1, if_pos h20, not32, List.getD_cons_zero, List.getD_cons_succ, Int.emod_add_emod]
          by_cases h40 : t < 40
          · have q : (t : Int) / 20 = 1 := by omega
            go_wp2_with (first | (with_reducible refine wpList_idx rfl 168 (.tmp 82) (.tmp 83) rfl 80 104 Tryd.underlying168 .u32 Tryd.underlying104 i104 t rfl rfl rfl h64 _ Hxv.out ?_) | (go_at_call 151; (first | (with_reducible refine (f151_l5 _ _).mono ?_) | (with_reducible refine (f151_l30 _ _).mono ?_)); rintro e w' ⟨rfl, rfl⟩))
            go_round
            case measure => simp [intOf]; omega
            case rel =>
              refine ⟨t + 1, _, _, _, _, _, by omega, by go_num, rfl, rfl, rfl, rfl, rfl, ⟨?_⟩⟩
              rw [rounds1, hE.out, ← hx.out, rd1]
              simp only [a32, f1, k1, if_neg h20, if_pos h40, not32, List.getD_cons_zero, List.getD_cons_succ, Int.emod_add_emod]
          by_cases h60 : t < 60
          · have q : (t : Int) / 20 = 2 := by omega
            go_wp2_with (first | (with_reducible refine wpList_idx rfl 168 (.tmp 82) (.tmp 83) rfl 80 104 Tryd.underlying168 .u32 Tryd.underlying104 i104 t rfl rfl rfl h64 _ Hxv.out ?_) | (go_at_call 151; (first | (with_reducible refine (f151_l5 _ _).mono ?_) | (with_reducible refine (f151_l30 _ _).mono ?_)); rintro e w' ⟨rfl, rfl⟩))
            go_round
            case measure => simp [intOf]; omega
            case rel =>
              refine ⟨t + 1, _, _, _, _, _, by omega, by go_num, rfl, rfl, rfl, rfl, rfl, ⟨?_⟩⟩
              rw [rounds1, hE.out, ← hx.out, rd1]
              simp only [a32, f1, k1, if_neg h20, if_neg h40, if_pos h60, not32, List.getD_cons_zero, List.getD_cons_succ, Int.emod_add_emod]
          · have q : (t : Int) / 20 = 3 := by omega
            go_wp2_with (first | (with_reducible refine wpList_idx rfl 168 (.tmp 82) (.tmp 83) rfl 80 104 Tryd.underlying168 .u32 Tryd.underlying104 i104 t rfl rfl rfl h64 _ Hxv.out ?_) | (go_at_call 151; (first | (with_reducible refine (f151_l5 _ _).mono ?_) | (with_reducible refine (f151_l30 _ _).mono ?_)); rintro e w' ⟨rfl, rfl⟩))
            go_round
            case measure => simp [intOf]; omega
            case rel =>
              refine ⟨t + 1, _, _, _, _, _, by omega, by go_num, rfl, rfl, rfl, rfl, rfl, ⟨?_⟩⟩
              rw [rounds1, hE.out, ← hx.out, rd1]
              simp only [a32, f1, k1, if_neg h20, if_neg h40, if_neg h60, not32, List.getD_cons_zero, List.getD_cons_succ, Int.emod_add_emod]
        · obtain rfl : t = 80 := by omega
          have hb := RB.new W3 [.int .u32 A, .int .u32 B, .int .u32 C, .int .u32 D, .int .u32 E] 104
          have hh4 := hh3.alloc (.cells [.int .u32 A, .int .u32 B, .int .u32 C, .int .u32 D, .int .u32 E].toArray 104)
          have hM4 := hM3.alloc (.cells [.int .u32 A, .int .u32 B, .int .u32 C, .int .u32 D, .int .u32 E].toArray 104)
          obtain ⟨B1, hB1⟩ : ∃ B1, Eqn B1 W3.heap.size := ⟨_, ⟨rfl⟩⟩
          have hlt := hh3.lt
          go_wp2_with fail
          rw [← hB1.out]
          rw [← hB1.out] at hb
          have HRl : Eqn (List.zipWith a32 ((hs.take 5).map c32) [A, B, C, D, E] ++ hs.drop 5).length hs.length := ⟨by simp [Hlen.out]⟩
          go_loopw [142] (fun i w4 => ∃ t : Nat, t ≤ 5 ∧ i = .int .i64 t ∧ RB w4 B1 104 [.int .u32 A, .int .u32 B, .int .u32 C, .int .u32 D, .int .u32 E] ∧ RB w4 bh 112 (hst kd ((List.zipWith a32 ((hs.take 5).map c32) [A, B, C, D, E] ++ hs.drop 5).take t ++ hs.drop t) wt cn) ∧ Mods (fun k => k = bh) w w4) (fun i _ => 5 - (intOf i).toNat)
          case atStart => exact ⟨0, by omega, rfl, hb, by simpa using hh4, hM4.mono (fun _ _ f => f.elim)⟩
          case round =>
            clear hb hh4 hM4 hh3 hM3 hs3
            obtain ⟨t, ht, rfl, hb, hh4, hM4⟩ := hrel
            by_cases h8 : t < 5
            · obtain ⟨y, hy, dy⟩ := hst_get hh4 t (by simp [Hlen.out]; omega)
              obtain ⟨x, hx⟩ : ∃ x, Eqn x ([A, B, C, D, E].getD t 0) := ⟨_, ⟨rfl⟩⟩
              have dx : wr.cell? ⟨B1, t, none⟩ = some (.int .u32 x) := by
                refine hb.cell ?_
                rw [hx.out, show [Value.int .u32 A, .int .u32 B, .int .u32 C, .int .u32 D, .int .u32 E] = [A, B, C, D, E].map (Value.int .u32) from rfl]
                rw [List.getElem?_map, List.getElem?_eq_getElem (by simpa using h8)]
                simp [h8, List.getD]
              have hf := hh4.free (1 + t)
              go_wp2_with fail
              go_region
              go_wp2_with fail
              go_roundw
              case measure => simp [intOf]; omega
              case rel =>
                refine ⟨t + 1, by omega, by go_num, ?_, ?_, ?_⟩
                · exact (hb.other _ (by simp; have := hB1.out; omega)).drew
                · have htl : t < hs.length := by rw [Hlen.out]; omega
                  have hy2 : y = hs.getD t 0 := by
                    rw [hy.out]
                    simp only [List.getD]
                    rw [List.getElem?_append_right (by simp [Hlen.out]; omega)]
                    simp [Hlen.out]
                    congr 2; omega
                  have hR : (List.zipWith a32 ((hs.take 5).map c32) [A, B, C, D, E] ++ hs.drop 5)[t]? = some ((y + x) % 4294967296) := by
                    rw [hy2, hx.out, List.getElem?_append_left (by simp [Hlen.out]; omega), List.getElem?_zipWith]
                    simp [htl, h8, List.getD, a32, c32]
                  have h9 := (hst_set hh4 t ((y + x) % 4294967296) (by simp [Hlen.out]; omega)).drew
                  rw [set_over _ hs t _ HRl.out htl hR] at h9
                  exact h9
                · exact (hM4.setCell (.inl rfl) _).drew
            · obtain rfl : t = 5 := by omega
              go_wp2_with fail
              go_end0
              refine ⟨rfl, ?_, hM4⟩
              have e : take1 ((hs.take 5).map c32) blk ++ hs.drop 5 = (List.zipWith a32 ((hs.take 5).map c32) [A, B, C, D, E] ++ hs.drop 5).take 5 ++ hs.drop 5 := by
                have hz : (List.zipWith a32 ((hs.take 5).map c32) [A, B, C, D, E]).length = 5 := by simp [Hlen.out]
                rw [take1, ← HS.out, hE.out, List.take_append_of_le_length (Nat.le_of_eq hz.symm), List.take_of_length_le (Nat.le_of_eq hz)]
              rw [e]
              exact hh4
end Go.Proofs.YtladijfaeieidaaDoor
