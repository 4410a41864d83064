/- The walk of the program's SHA-512 over one block: it computes take512. Conditions: the state lies in a row of its own, the block has 128 bytes, the table of constants stands. -/
import Derived.Test.YtladijfaeieidaaDoorH1
namespace Go.Proofs.YtladijfaeieidaaDoor
open Go.RowKit

theorem nw512_of {s r : List Int} {k : Nat} (hl : s.length = k + 16) {x15 x2 x16 x7 : Int} (e15 : Eqn x15 ((s ++ r).getD (k + 1) 0)) (e2 : Eqn x2 ((s ++ r).getD (k + 14) 0)) (e16 : Eqn x16 ((s ++ r).getD k 0)) (e7 : Eqn x7 ((s ++ r).getD (k + 9) 0)) :
    a64 (a64 (a64 x16 (tg0 x15)) x7) (tg1 x2) = nw512 s (k + 16) := by
  rw [e15.out, e2.out, e16.out, e7.out, getD_front _ _ _ (by omega), getD_front _ _ _ (by omega), getD_front _ _ _ (by omega), getD_front _ _ _ (by omega)]
  simp only [nw512, show k + 16 - 16 = k from by omega, show k + 16 - 15 = k + 1 from by omega, show k + 16 - 7 = k + 9 from by omega, show k + 16 - 2 = k + 14 from by omega]

theorem rd512_of (a b c d e f g h kt x : Int) :
    [a64 (a64 (a64 (a64 (a64 h (Tg1 e)) (ch64 e f g)) kt) x) (a64 (Tg0 a) (mj64 a b c)), a, b, c, a64 d (a64 (a64 (a64 (a64 h (Tg1 e)) (ch64 e f g)) kt) x), e, f, g] = rd512 kt x [a, b, c, d, e, f, g, h] := rfl
theorem i107 : (Tryd.prog.info? 107).map (·.size) = some 1 := by kernel_rfl
theorem c172 : Tryd.prog.cellsOf 172 = 80 := by kernel_rfl
theorem i172 : (Tryd.prog.info? 172).isSome = true := by kernel_rfl
theorem c109 : Tryd.prog.cellsOf 109 = 8 := by kernel_rfl
theorem i109 : (Tryd.prog.info? 109).isSome = true := by kernel_rfl
set_option maxRecDepth 100000 in
set_option maxHeartbeats 1000000 in
theorem f135 (bh : Nat) (kd : Int) (hs : List Int) (wt cn : Value) (hlen : hs.length = 8) (blk : List Int) (hblk : blk.length = 128) (hB : Byt blk) (a : Option Addr) (c : Nat) (w : World)
  (hp : Sv w 5 1 a 128 c (bv blk)) (hh : RB w bh 112 (hst kd hs wt cn)) (hk : GK w) :
  Calls Tryd.prog 135 #[.pointer (some ⟨bh, 0, none⟩), .slice a 128 c] w fun e w' => e = .returned (.tuple #[]) ∧
    RB w' bh 112 (hst kd (take512 hs blk) wt cn) ∧ Mods (fun k => k = bh) w w' := by
  have hbh := hh.lt
  have hcc := hp.le
  obtain ⟨bp, op, rfl⟩ := hp.addr (by omega)
  have hbp := hp.lt _ rfl
  go_enter Tryd.func135, Tryd.ntmps135
  go_wp2_with fail
  go_loopw [20] (fun i wr => ∃ t : Nat, t ≤ 80 ∧ i = .int .i64 t ∧ IB wr w.heap.size 172 .u64 (sched 8 nw512 blk t ++ List.replicate (80 - t) 0) ∧ Mods Nix w wr) (fun i _ => 80 - (intOf i).toNat)
  case atStart =>
    exact ⟨0, by omega, rfl, IB.new w (List.replicate 80 0) .u64 172, alloc_mods _ _⟩
  case round =>
    obtain ⟨t, ht, rfl, hw, hM⟩ := hrel
    have hsl := Eqn.mk (length_sched 8 nw512 blk t)
    have hsz := hM.size
    by_cases h64 : t < 80
    · by_cases h16 : t < 16
      · obtain ⟨x0, _, hx0⟩ := hw.cell t (by simp [hsl.out]; omega)
        have hf := hw.free t
        have hg := get64 (w := wr) (a := some ⟨bp, op + 8 * t, none⟩) (n := 128 - 8 * t) (c := c - 8 * t) (l := blk.drop (8 * t)) (by rw [← bv_drop]; exact (hp.mods hM (fun _ _ f => f)).tail _ (by omega) (by omega)) (by rw [List.length_drop]; omega) (by omega) (hB.drop _)
        go_wp2_with (go_at_call 140; refine hg.mono ?_; rintro e w' ⟨rfl, nq, rfl⟩)
        go_roundw
        case measure => simp [intOf]; omega
        case rel =>
          refine ⟨t + 1, by omega, by go_num, ?_, ?_⟩
          · exact sched_put (hw.drewN _) (by omega) (by rw [if_pos h16])
          · exact (hM.drewN _).setCell (.inr (Nat.le_refl _)) _
      · obtain ⟨k, rfl⟩ : ∃ k, t = k + 16 := ⟨t - 16, by omega⟩
        obtain ⟨x15, E15, hx15⟩ := hw.cell (k + 1) (by simp [hsl.out]; omega)
        obtain ⟨x2, E2, hx2⟩ := hw.cell (k + 14) (by simp [hsl.out]; omega)
        obtain ⟨x16, E16, hx16⟩ := hw.cell k (by simp [hsl.out]; omega)
        obtain ⟨x7, E7, hx7⟩ := hw.cell (k + 9) (by simp [hsl.out]; omega)
        obtain ⟨x0, _, hx0⟩ := hw.cell (k + 16) (by simp [hsl.out]; omega)
        have hf := hw.free (k + 16)
        go_wp2_with fail
        go_region
        go_wp2_with (go_at_call 152; (first | (with_reducible refine (f152_r1 _ _).mono ?_) | (with_reducible refine (f152_r8 _ _).mono ?_) | (with_reducible refine (f152_r19 _ _).mono ?_) | (with_reducible refine (f152_r61 _ _).mono ?_)); rintro e w' ⟨rfl, rfl⟩)
        go_region
        go_wp2_with fail
        go_roundw
        case measure => simp [intOf]; omega
        case rel =>
          refine ⟨k + 16 + 1, by omega, by go_num, ?_, ?_⟩
          · exact ((sched_put hw (by omega) (by rw [if_neg (by omega)]; exact nw512_of hsl.out E15 E2 E16 E7)).drew).drew
          · exact ((hM.setCell (.inr (Nat.le_refl _)) _).drew).drew
    · obtain rfl : t = 80 := by omega
      have hwB := hw.lt
      have hh1 := hh.mods hM (fun f => f)
      have hk1 := hk.mods hM (fun f => f)
      have hne := hk.ne hh
      obtain ⟨e0, e1, e2, e3, e4, e5, e6, e7, hse⟩ := eight hs hlen
      have d1 : wr.cell? ⟨bh, 1, none⟩ = some (.int .u64 e0) := hh1.cell (by rw [hse]; rfl)
      have d2 : wr.cell? ⟨bh, 1 + 1, none⟩ = some (.int .u64 e1) := hh1.cell (by rw [hse]; rfl)
      have d3 : wr.cell? ⟨bh, 1 + 2, none⟩ = some (.int .u64 e2) := hh1.cell (by rw [hse]; rfl)
      have d4 : wr.cell? ⟨bh, 1 + 3, none⟩ = some (.int .u64 e3) := hh1.cell (by rw [hse]; rfl)
      have d5 : wr.cell? ⟨bh, 1 + 4, none⟩ = some (.int .u64 e4) := hh1.cell (by rw [hse]; rfl)
      have d6 : wr.cell? ⟨bh, 1 + 5, none⟩ = some (.int .u64 e5) := hh1.cell (by rw [hse]; rfl)
      have d7 : wr.cell? ⟨bh, 1 + 6, none⟩ = some (.int .u64 e6) := hh1.cell (by rw [hse]; rfl)
      have d8 : wr.cell? ⟨bh, 1 + 7, none⟩ = some (.int .u64 e7) := hh1.cell (by rw [hse]; rfl)
      have Hse := Eqn.mk hse
      have Hlen := Eqn.mk hlen
      clear hse hlen
      obtain ⟨S, hS⟩ : ∃ S, S = sched 8 nw512 blk 80 := ⟨_, rfl⟩
      have hSl : S.length = 80 := by rw [hS]; exact hsl.out
      have hs2 : IB wr w.heap.size 172 .u64 S := by
        have h9 := hw
        rw [hS]; simpa using h9
      have HS := Eqn.mk hS
      have HSl := Eqn.mk hSl
      clear hS hSl hw
      obtain ⟨B1, hB1⟩ : ∃ B1, Eqn B1 wr.heap.size := ⟨_, ⟨rfl⟩⟩
      have hs3 := hs2.alloc (.cells #[.int .u64 e0, .int .u64 e1, .int .u64 e2, .int .u64 e3, .int .u64 e4, .int .u64 e5, .int .u64 e6, .int .u64 e7] 109)
      have hv0 := IB.new wr [e0, e1, e2, e3, e4, e5, e6, e7] .u64 109
      have hh2 := hh1.alloc (.cells #[.int .u64 e0, .int .u64 e1, .int .u64 e2, .int .u64 e3, .int .u64 e4, .int .u64 e5, .int .u64 e6, .int .u64 e7] 109)
      have hk2 := hk1.mods (alloc_mods wr (.cells #[.int .u64 e0, .int .u64 e1, .int .u64 e2, .int .u64 e3, .int .u64 e4, .int .u64 e5, .int .u64 e6, .int .u64 e7] 109)) (fun f => f)
      have hM2 := hM.alloc (.cells #[.int .u64 e0, .int .u64 e1, .int .u64 e2, .int .u64 e3, .int .u64 e4, .int .u64 e5, .int .u64 e6, .int .u64 e7] 109)
      go_wp2_with (with_reducible refine wpList_arr rfl 172 (.tmp 4) rfl hs3.row rfl 80 107 Tryd.underlying172 (by simp [HSl.out, c172]) i172 ?_)
      rw [← hB1.out]
      rw [← hB1.out] at hv0
      clear hs2 hs3 hh1 hk1 hM
      go_loopw [77] (fun i w3 => ∃ t : Nat, t ≤ 80 ∧ i = .int .i64 t ∧ IB w3 B1 109 .u64 (rounds512 S hs t) ∧ RB w3 bh 112 (hst kd hs wt cn) ∧ GK w3 ∧ Mods Nix w w3) (fun i _ => 80 - (intOf i).toNat)
      case atStart => exact ⟨0, by omega, rfl, by rw [rounds512, Hse.out]; exact hv0, hh2, hk2, hM2⟩
      case round =>
        clear hv0 hh2 hk2 hM2 d1 d2 d3 d4 d5 d6 d7 d8
        obtain ⟨t, ht, rfl, hv, hh3, hk3, hM3⟩ := hrel
        by_cases h64 : t < 80
        · obtain ⟨a, b, c, d, e, f, g, h, hE⟩ := eight _ (length_rounds512 S hs Hlen.out t)
          rw [hE] at hv
          have HE := Eqn.mk hE
          clear hE
          have d0 : wr.cell? ⟨B1, 0, none⟩ = some (.int .u64 a) := hv.row.cell rfl
          have d1 : wr.cell? ⟨B1, 1, none⟩ = some (.int .u64 b) := hv.row.cell rfl
          have d2 : wr.cell? ⟨B1, 2, none⟩ = some (.int .u64 c) := hv.row.cell rfl
          have d3 : wr.cell? ⟨B1, 3, none⟩ = some (.int .u64 d) := hv.row.cell rfl
          have d4 : wr.cell? ⟨B1, 4, none⟩ = some (.int .u64 e) := hv.row.cell rfl
          have d5 : wr.cell? ⟨B1, 5, none⟩ = some (.int .u64 f) := hv.row.cell rfl
          have d6 : wr.cell? ⟨B1, 6, none⟩ = some (.int .u64 g) := hv.row.cell rfl
          have d7 : wr.cell? ⟨B1, 7, none⟩ = some (.int .u64 h) := hv.row.cell rfl
          obtain ⟨kt, hkt⟩ : ∃ kt, Eqn kt (K t) := ⟨_, ⟨rfl⟩⟩
          have dk : wr.cell? ⟨0, t, none⟩ = some (.int .u64 kt) := by rw [hkt.out]; exact hk3.cell t (by omega)
          obtain ⟨x, hx⟩ : ∃ x, Eqn x (S.getD t 0) := ⟨_, ⟨rfl⟩⟩
          have Hxv : Eqn (S.map (Value.int .u64))[t]? (some (.int .u64 x)) := ⟨by rw [hx.out]; simp [HSl.out, h64, List.getD]⟩
          have f0 := hv.free 0; have f1 := hv.free 1; have f2 := hv.free 2; have f3 := hv.free 3; have f4 := hv.free 4; have f5 := hv.free 5; have f6 := hv.free 6; have f7 := hv.free 7
          go_wp2_with (with_reducible refine wpList_idx rfl 172 (.tmp 76) (.tmp 77) rfl 80 107 Tryd.underlying172 .u64 Tryd.underlying107 i107 t rfl rfl rfl h64 _ Hxv.out ?_)
          go_region
          go_wp2_with (go_at_call 152; (first | (with_reducible refine (f152_r14 _ _).mono ?_) | (with_reducible refine (f152_r18 _ _).mono ?_) | (with_reducible refine (f152_r41 _ _).mono ?_) | (with_reducible refine (f152_r28 _ _).mono ?_) | (with_reducible refine (f152_r34 _ _).mono ?_) | (with_reducible refine (f152_r39 _ _).mono ?_)); rintro e w' ⟨rfl, rfl⟩)
          go_region
          go_wp2_with (go_at_call 152; (first | (with_reducible refine (f152_r14 _ _).mono ?_) | (with_reducible refine (f152_r18 _ _).mono ?_) | (with_reducible refine (f152_r41 _ _).mono ?_) | (with_reducible refine (f152_r28 _ _).mono ?_) | (with_reducible refine (f152_r34 _ _).mono ?_) | (with_reducible refine (f152_r39 _ _).mono ?_)); rintro e w' ⟨rfl, rfl⟩)
          go_roundw
          case measure => simp [intOf]; omega
          case rel =>
            have hne1 : bh ≠ B1 := by have := hB1.out; omega
            have hne0 : ¬ (0 = B1) := by have := hB1.out; have := hk.lt; omega
            have hle1 : w.heap.size ≤ B1 := by have := hB1.out; omega
            refine ⟨t + 1, by omega, by go_num, ?_, ?_, ?_, ?_⟩
            · rw [rounds512, HE.out, ← hkt.out, ← hx.out, ← rd512_of]
              exact ((((((((((hv.set 0 _).set 1 _).set 2 _).set 3 _).set 4 _).set 5 _).set 6 _).set 7 _).drew).drew)
            · exact (((((((((hh3.other _ hne1).other _ hne1).other _ hne1).other _ hne1).other _ hne1).other _ hne1).other _ hne1).other _ hne1).drew).drew
            · exact hk3.mods ((((((((((Mods.refl (fun k => k = B1) _).setCell (.inl rfl) _).setCell (.inl rfl) _).setCell (.inl rfl) _).setCell (.inl rfl) _).setCell (.inl rfl) _).setCell (.inl rfl) _).setCell (.inl rfl) _).setCell (.inl rfl) _).drew.drew) hne0
            · exact ((((((((hM3.setCell (.inr hle1) _).setCell (.inr hle1) _).setCell (.inr hle1) _).setCell (.inr hle1) _).setCell (.inr hle1) _).setCell (.inr hle1) _).setCell (.inr hle1) _).setCell (.inr hle1) _).drew.drew
        · obtain rfl : t = 80 := by omega
          obtain ⟨V, hV⟩ : ∃ V, Eqn V (rounds512 S hs 80) := ⟨_, ⟨rfl⟩⟩
          have hVl : Eqn V.length 8 := ⟨by rw [hV.out]; exact length_rounds512 _ _ Hlen.out _⟩
          rw [← hV.out] at hv
          go_wp2_with (with_reducible refine wpList_arr rfl 109 (.tmp 10) rfl hv.row rfl 8 107 Tryd.underlying109 (by simp [hVl.out, c109]) i109 ?_)
          have HRl : Eqn (List.zipWith a64 hs V).length hs.length := ⟨by simp [hVl.out, Hlen.out]⟩
          go_loopw [159] (fun i w4 => ∃ t : Nat, t ≤ 8 ∧ i = .int .i64 t ∧ RB w4 bh 112 (hst kd ((List.zipWith a64 hs V).take t ++ hs.drop t) wt cn) ∧ Mods (fun k => k = bh) w w4) (fun i _ => 8 - (intOf i).toNat)
          case atStart => exact ⟨0, by omega, rfl, by simpa using hh3, hM3.mono (fun _ _ f => f.elim)⟩
          case round =>
            clear hh3 hM3 hk3 hv
            obtain ⟨t, ht, rfl, hh4, hM4⟩ := hrel
            by_cases h8 : t < 8
            · obtain ⟨y, hy, dy⟩ := hst_get hh4 t (by simp [Hlen.out, hVl.out]; omega)
              obtain ⟨x, hx⟩ : ∃ x, Eqn x (V.getD t 0) := ⟨_, ⟨rfl⟩⟩
              have Hxv : Eqn (V.map (Value.int .u64))[t]? (some (.int .u64 x)) := ⟨by rw [hx.out]; simp [hVl.out, h8, List.getD]⟩
              have hf := hh4.free (1 + t)
              go_wp2_with (with_reducible refine wpList_idx rfl 109 (.tmp 158) (.tmp 159) rfl 8 107 Tryd.underlying109 .u64 Tryd.underlying107 i107 t rfl rfl rfl h8 _ Hxv.out ?_)
              go_region
              go_wp2_with fail
              go_roundw
              case measure => simp [intOf]; omega
              case rel =>
                refine ⟨t + 1, by omega, by go_num, ?_, ?_⟩
                · have htl : t < hs.length := by rw [Hlen.out]; exact h8
                  have hy2 : y = hs.getD t 0 := by
                    rw [hy.out]
                    simp only [List.getD]
                    rw [List.getElem?_append_right (by simp [HRl.out]; omega)]
                    simp [HRl.out, Nat.min_eq_left (Nat.le_of_lt htl)]
                  have hR : (List.zipWith a64 hs V)[t]? = some (IntKind.u64.wrap (y + x)) := by
                    have htV : t < V.length := by rw [hVl.out]; exact h8
                    rw [hy2, hx.out, List.getElem?_zipWith]
                    simp [htl, htV, List.getD, a64]
                  have h9 := (hst_set hh4 t (IntKind.u64.wrap (y + x)) (by simp [HRl.out]; omega)).drew
                  rw [set_over _ hs t _ HRl.out htl hR] at h9
                  exact h9
                · exact (hM4.setCell (.inl rfl) _).drew
            · obtain rfl : t = 8 := by omega
              go_wp2_with fail
              go_end0
              refine ⟨rfl, ?_, hM4⟩
              have e : take512 hs blk = (List.zipWith a64 hs V).take 8 ++ hs.drop 8 := by
                rw [List.take_of_length_le (by rw [HRl.out, Hlen.out]; exact Nat.le_refl _), List.drop_eq_nil_of_le (by rw [Hlen.out]; exact Nat.le_refl _), List.append_nil, take512, ← HS.out, ← hV.out]
              rw [e]
              exact hh4
end Go.Proofs.YtladijfaeieidaaDoor
