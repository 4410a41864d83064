/- The walk of the program's SHA-256 over one block: it computes take256. Conditions: the state lies in a row of its own, the block has 64 bytes, the table of constants stands. -/
import Derived.Test.YtladijfaeieidaaDoorS

namespace Go.Proofs.YtladijfaeieidaaDoor
open Go.RowKit

/-- What a round of the schedule has written, with what stood before it. -/
theorem sched_put {n : Nat} {nw : List Int → Nat → Int} {blk : List Int} {t N : Nat} {w : World} {B T : Nat} {k : IntKind} {X : Int} (h : IB w B T k (sched n nw blk t ++ List.replicate (N - t) 0)) (ht : t < N)
    (hX : X = if t < 16 then be ((blk.drop (n * t)).take n) else nw (sched n nw blk t) t) : IB (w.setCell ⟨B, t, none⟩ (.int k X)) B T k (sched n nw blk (t + 1) ++ List.replicate (N - (t + 1)) 0) := by
  have h2 := h.set t X
  rw [set_next _ t N X (length_sched _ _ _ _) ht] at h2
  rw [sched, ← hX]
  exact h2
theorem nw256_of {s r : List Int} {k : Nat} (hl : s.length = k + 16) {x15 x2 x16 x7 : Int} (e15 : Eqn x15 ((s ++ r).getD (k + 1) 0)) (e2 : Eqn x2 ((s ++ r).getD (k + 14) 0)) (e16 : Eqn x16 ((s ++ r).getD k 0)) (e7 : Eqn x7 ((s ++ r).getD (k + 9) 0)) :
    (x16 + bits .xor .u32 (bits .xor .u32 (p32_7 x15) (p32_18 x15)) (x15 / 8) + x7 + bits .xor .u32 (bits .xor .u32 (p32_17 x2) (p32_19 x2)) (x2 / 1024)) % 4294967296 = nw256 s (k + 16) := by
  rw [e15.out, e2.out, e16.out, e7.out, getD_front _ _ _ (by omega), getD_front _ _ _ (by omega), getD_front _ _ _ (by omega), getD_front _ _ _ (by omega)]
  simp only [nw256, a32, sg0, sg1, show k + 16 - 16 = k from by omega, show k + 16 - 15 = k + 1 from by omega, show k + 16 - 7 = k + 9 from by omega, show k + 16 - 2 = k + 14 from by omega, Int.emod_add_emod]

theorem rd256_of (a b c d e f g h kt x : Int) :
    [(h + bits .xor .u32 (bits .xor .u32 (p32_6 e) (p32_11 e)) (p32_25 e) + bits .xor .u32 (bits .and .u32 e f) (bits .and .u32 (bits .xor .u32 (if IntKind.u32.signed = true then -1 else IntKind.u32.max) e) g) + kt / 4294967296 + x +
      (bits .xor .u32 (bits .xor .u32 (p32_2 a) (p32_13 a)) (p32_22 a) + bits .xor .u32 (bits .xor .u32 (bits .and .u32 a b) (bits .and .u32 a c)) (bits .and .u32 b c))) % 4294967296, a, b, c,
      (d + (h + bits .xor .u32 (bits .xor .u32 (p32_6 e) (p32_11 e)) (p32_25 e) + bits .xor .u32 (bits .and .u32 e f) (bits .and .u32 (bits .xor .u32 (if IntKind.u32.signed = true then -1 else IntKind.u32.max) e) g) + kt / 4294967296 + x)) % 4294967296, e, f, g] =
      rd256 (kt / 4294967296) x [a, b, c, d, e, f, g, h] := by
  simp only [rd256, a32, Sg1, Sg0, ch32, mj32, not32, List.getD_cons_zero, List.getD_cons_succ, Int.emod_add_emod, Int.add_emod_emod]
theorem c170 : Tryd.prog.cellsOf 170 = 64 := by kernel_rfl
theorem i170 : (Tryd.prog.info? 170).isSome = true := by kernel_rfl
theorem i104 : (Tryd.prog.info? 104).map (·.size) = some 1 := by kernel_rfl
theorem c171 : Tryd.prog.cellsOf 171 = 8 := by kernel_rfl
theorem i171 : (Tryd.prog.info? 171).isSome = true := by kernel_rfl
set_option maxRecDepth 100000 in
set_option maxHeartbeats 1000000 in
theorem f134 (bh : Nat) (kd : Int) (hs : List Int) (wt cn : Value) (hlen : hs.length = 8) (blk : List Int) (hblk : blk.length = 64) (hB : Byt blk) (a : Option Addr) (c : Nat) (w : World)
  (hp : Sv w 5 1 a 64 c (bv blk)) (hh : RB w bh 112 (hst kd hs wt cn)) (hk : GK w) :
  Calls Tryd.prog 134 #[.pointer (some ⟨bh, 0, none⟩), .slice a 64 c] w fun e w' => e = .returned (.tuple #[]) ∧
    RB w' bh 112 (hst kd (take256 (hs.map c32) blk) wt cn) ∧ Mods (fun k => k = bh) w w' := by
  have hbh := hh.lt
  have hcc := hp.le
  obtain ⟨bp, op, rfl⟩ := hp.addr (by omega)
  have hbp := hp.lt _ rfl
  go_enter Tryd.func134, Tryd.ntmps134
  go_wp2_with fail
  go_loopw [21] (fun i wr => ∃ t : Nat, t ≤ 64 ∧ i = .int .i64 t ∧ IB wr w.heap.size 170 .u32 (sched 4 nw256 blk t ++ List.replicate (64 - t) 0) ∧ Mods Nix w wr) (fun i _ => 64 - (intOf i).toNat)
  case atStart =>
    exact ⟨0, by omega, rfl, IB.new w (List.replicate 64 0) .u32 170, alloc_mods _ _⟩
  case round =>
    obtain ⟨t, ht, rfl, hw, hM⟩ := hrel
    have hsl := Eqn.mk (length_sched 4 nw256 blk t)
    have hsz := hM.size
    by_cases h64 : t < 64
    · by_cases h16 : t < 16
      · obtain ⟨x0, _, hx0⟩ := hw.cell t (by simp [hsl.out]; omega)
        have hf := hw.free t
        have hg := get32 (w := wr) (a := some ⟨bp, op + 4 * t, none⟩) (n := 64 - 4 * t) (c := c - 4 * t) (l := blk.drop (4 * t)) (by rw [← bv_drop]; exact (hp.mods hM (fun _ _ f => f)).tail _ (by omega) (by omega)) (by rw [List.length_drop]; omega) (by omega) (hB.drop _)
        go_wp2_with (go_at_call 139; refine hg.mono ?_; rintro e w' ⟨rfl, nq, rfl⟩)
        go_roundw
        case measure => simp [intOf]; omega
        case rel =>
          refine ⟨t + 1, by omega, by go_num, ?_, ?_⟩
          · exact sched_put (hw.drewN _) (by omega) (by rw [if_pos h16])
          · exact (hM.drewN _).setCell (.inr (Nat.le_refl _)) _
      · obtain ⟨k, rfl⟩ : ∃ k, t = k + 16 := ⟨t - 16, by omega⟩
        obtain ⟨x15, E15, hx15⟩ := hw.cell (k + 1) (by simp [hsl.out]; omega)
        obtain ⟨x2, E2, hx2⟩ := hw.cell (k + 14) (by simp [hsl.out]; omega)
        obtain ⟨x16, E16, hx16⟩ := hw.cell k (by simp [hsl.out]; omega)
        obtain ⟨x7, E7, hx7⟩ := hw.cell (k + 9) (by simp [hsl.out]; omega)
        obtain ⟨x0, _, hx0⟩ := hw.cell (k + 16) (by simp [hsl.out]; omega)
        have hf := hw.free (k + 16)
        go_wp2_with fail
        go_region
        go_wp2_with (go_at_call 151; (first | (with_reducible refine (f151_r7 _ _).mono ?_) | (with_reducible refine (f151_r18 _ _).mono ?_) | (with_reducible refine (f151_r17 _ _).mono ?_) | (with_reducible refine (f151_r19 _ _).mono ?_)); rintro e w' ⟨rfl, rfl⟩)
        go_region
        go_wp2_with fail
        go_roundw
        case measure => simp [intOf]; omega
        case rel =>
          refine ⟨k + 16 + 1, by omega, by go_num, ?_, ?_⟩
          · exact ((sched_put hw (by omega) (by rw [if_neg (by omega)]; exact nw256_of hsl.out E15 E2 E16 E7)).drew).drew
          · exact ((hM.setCell (.inr (Nat.le_refl _)) _).drew).drew
    · obtain rfl : t = 64 := by omega
      obtain ⟨B1, hB1⟩ : ∃ B1, Eqn B1 wr.heap.size := ⟨_, ⟨rfl⟩⟩
      have hwB := hw.lt
      have hh1 := hh.mods hM (fun f => f)
      have hk1 := hk.mods hM (fun f => f)
      have hne := hk.ne hh
      go_wp2_with fail
      rw [← hB1.out]
      go_loopw [73] (fun i w2 => ∃ t : Nat, t ≤ 8 ∧ i = .int .i64 t ∧ IB w2 B1 171 .u32 ((hs.map c32).take t ++ List.replicate (8 - t) 0) ∧ IB w2 w.heap.size 170 .u32 (sched 4 nw256 blk 64) ∧ RB w2 bh 112 (hst kd hs wt cn) ∧ GK w2 ∧ Mods Nix w w2) (fun i _ => 8 - (intOf i).toNat)
      case atStart =>
        refine ⟨0, by omega, rfl, ?_, ?_, hh1.alloc _, hk1.mods (alloc_mods _ _) (fun f => f), hM.alloc _⟩
        · rw [hB1.out]; exact IB.new wr (List.replicate 8 0) .u32 171
        · have := hw.alloc (.cells #[.int .u32 0, .int .u32 0, .int .u32 0, .int .u32 0, .int .u32 0, .int .u32 0, .int .u32 0, .int .u32 0] 171)
          simpa using this
      case round =>
        obtain ⟨t, ht, rfl, hv, hs2, hh2, hk2, hM2⟩ := hrel
        clear hh1 hk1 hh
        by_cases h8 : t < 8
        · obtain ⟨x, hx, dx⟩ := hst_get hh2 t (by omega)
          obtain ⟨x0, _, d0⟩ := hv.cell t (by simp [hlen]; omega)
          have hf := hv.free t
          go_wp2_with fail
          try go_region
          go_wp2_with fail
          go_roundw
          case measure => simp [intOf]; omega
          case rel =>
            refine ⟨t + 1, by omega, by go_num, ?_, ?_, ?_, ?_, ?_⟩
            · have h9 := hv.set t (x % 4294967296)
              rw [take_next (hs.map c32) t 8 _ (by omega) (by simp [hlen]; omega) ⟨by rw [hx.out]; simp [hlen, h8, List.getD, c32]⟩] at h9
              exact h9
            · exact hs2.other _ (by simp; have := hB1.out; omega)
            · exact hh2.other _ (by simp; have := hB1.out; omega)
            · exact hk2.mods ((Mods.refl (fun k => k = B1) _).setCell (.inl rfl) _) (by have := hk.lt; have := hB1.out; omega)
            · exact hM2.setCell (.inr (by simp; have := hB1.out; omega)) _
        · obtain rfl : t = 8 := by omega
          go_wp2_with (with_reducible refine wpList_arr rfl 170 (.tmp 4) rfl hs2.row rfl 64 104 Tryd.underlying170 (by simp [length_sched, c170]) i170 ?_)
          obtain ⟨hv0, hvE⟩ : ∃ hv0, Eqn hv0 (hs.map c32) := ⟨_, ⟨rfl⟩⟩
          have hvl : hv0.length = 8 := by rw [hvE.out]; simpa using hlen
          have hv' : IB wr B1 171 .u32 hv0 := by
            have h9 := hv
            rw [List.take_of_length_le (by simp [hlen])] at h9
            rw [hvE.out]; simpa using h9
          obtain ⟨S, hS⟩ : ∃ S, S = sched 4 nw256 blk 64 := ⟨_, rfl⟩
          have hSl : S.length = 64 := by rw [hS]; exact hsl.out
          rw [← hS]
          have HS := Eqn.mk hS
          clear hS hv hw hs2 hM hsz
          have Hlen := Eqn.mk hlen
          have Hvl := Eqn.mk hvl
          have HSl := Eqn.mk hSl
          clear hlen hvl hSl
          go_wp2_with fail
          go_loopw [87] (fun i w3 => ∃ t : Nat, t ≤ 64 ∧ i = .int .i64 t ∧ IB w3 B1 171 .u32 (rounds256 S hv0 t) ∧ RB w3 bh 112 (hst kd hs wt cn) ∧ GK w3 ∧ Mods Nix w w3) (fun i _ => 64 - (intOf i).toNat)
          case atStart => exact ⟨0, by omega, rfl, hv', hh2, hk2, hM2⟩
          case round =>
            clear hv' hh2 hk2 hM2
            obtain ⟨t, ht, rfl, hv, hh3, hk3, hM3⟩ := hrel
            by_cases h64 : t < 64
            · obtain ⟨a, b, c, d, e, f, g, h, hE⟩ := eight _ (length_rounds256 S hv0 Hvl.out t)
              rw [hE] at hv
              have HE := Eqn.mk hE
              clear hE
              have d0 : wr.cell? ⟨B1, 0, none⟩ = some (.int .u32 a) := hv.row.cell rfl
              have d1 : wr.cell? ⟨B1, 1, none⟩ = some (.int .u32 b) := hv.row.cell rfl
              have d2 : wr.cell? ⟨B1, 2, none⟩ = some (.int .u32 c) := hv.row.cell rfl
              have d3 : wr.cell? ⟨B1, 3, none⟩ = some (.int .u32 d) := hv.row.cell rfl
              have d4 : wr.cell? ⟨B1, 4, none⟩ = some (.int .u32 e) := hv.row.cell rfl
              have d5 : wr.cell? ⟨B1, 5, none⟩ = some (.int .u32 f) := hv.row.cell rfl
              have d6 : wr.cell? ⟨B1, 6, none⟩ = some (.int .u32 g) := hv.row.cell rfl
              have d7 : wr.cell? ⟨B1, 7, none⟩ = some (.int .u32 h) := hv.row.cell rfl
              obtain ⟨kt, hkt⟩ : ∃ kt, Eqn kt (K t) := ⟨_, ⟨rfl⟩⟩
              have dk : wr.cell? ⟨0, t, none⟩ = some (.int .u64 kt) := by rw [hkt.out]; exact hk3.cell t (by omega)
              obtain ⟨x, hx⟩ : ∃ x, Eqn x (S.getD t 0) := ⟨_, ⟨rfl⟩⟩
              have hxv : (S.map (Value.int .u32))[t]? = some (.int .u32 x) := by rw [hx.out]; simp [HSl.out, h64, List.getD]
              have hf := fun j => hv.free j
              have f0 := hf 0; have f1 := hf 1; have f2 := hf 2; have f3 := hf 3; have f4 := hf 4; have f5 := hf 5; have f6 := hf 6; have f7 := hf 7
              clear hf
              have Hxv := Eqn.mk hxv
              clear hxv
              go_wp2_with (with_reducible refine wpList_idx rfl 170 (.tmp 86) (.tmp 87) rfl 64 104 Tryd.underlying170 .u32 Tryd.underlying104 i104 t rfl rfl rfl h64 _ Hxv.out ?_)
              go_region
              go_wp2_with (go_at_call 151; (first| (with_reducible refine (f151_r6 _ _).mono ?_) | (with_reducible refine (f151_r11 _ _).mono ?_) | (with_reducible refine (f151_r25 _ _).mono ?_) | (with_reducible refine (f151_r2 _ _).mono ?_) | (with_reducible refine (f151_r13 _ _).mono ?_) | (with_reducible refine (f151_r22 _ _).mono ?_)); rintro e w' ⟨rfl, rfl⟩)
              go_region
              go_wp2_with (go_at_call 151; (first| (with_reducible refine (f151_r6 _ _).mono ?_) | (with_reducible refine (f151_r11 _ _).mono ?_) | (with_reducible refine (f151_r25 _ _).mono ?_) | (with_reducible refine (f151_r2 _ _).mono ?_) | (with_reducible refine (f151_r13 _ _).mono ?_) | (with_reducible refine (f151_r22 _ _).mono ?_)); rintro e w' ⟨rfl, rfl⟩)
              go_roundw
              case measure => simp [intOf]; omega
              case rel =>
                have hne1 : bh ≠ B1 := by have := hB1.out; omega
                have hne0 : ¬ (0 = B1) := by have := hB1.out; have := hk.lt; omega
                have hle1 : w.heap.size ≤ B1 := by have := hB1.out; omega
                refine ⟨t + 1, by omega, by go_num, ?_, ?_, ?_, ?_⟩
                · rw [rounds256, HE.out, ← hkt.out, ← hx.out, ← rd256_of]
                  exact ((((((((((hv.set 0 _).set 1 _).set 2 _).set 3 _).set 4 _).set 5 _).set 6 _).set 7 _).drew).drew)
                · exact (((((((((hh3.other _ hne1).other _ hne1).other _ hne1).other _ hne1).other _ hne1).other _ hne1).other _ hne1).other _ hne1).drew).drew
                · exact hk3.mods ((((((((((Mods.refl (fun k => k = B1) _).setCell (.inl rfl) _).setCell (.inl rfl) _).setCell (.inl rfl) _).setCell (.inl rfl) _).setCell (.inl rfl) _).setCell (.inl rfl) _).setCell (.inl rfl) _).setCell (.inl rfl) _).drew.drew) hne0
                · exact ((((((((hM3.setCell (.inr hle1) _).setCell (.inr hle1) _).setCell (.inr hle1) _).setCell (.inr hle1) _).setCell (.inr hle1) _).setCell (.inr hle1) _).setCell (.inr hle1) _).setCell (.inr hle1) _).drew.drew
            · obtain rfl : t = 64 := by omega
              obtain ⟨V, hV⟩ : ∃ V, Eqn V (rounds256 S hv0 64) := ⟨_, ⟨rfl⟩⟩
              have hVl : Eqn V.length 8 := ⟨by rw [hV.out]; exact length_rounds256 _ _ Hvl.out _⟩
              rw [← hV.out] at hv
              go_wp2_with (with_reducible refine wpList_arr rfl 171 (.tmp 10) rfl hv.row rfl 8 104 Tryd.underlying171 (by simp [hVl.out, c171]) i171 ?_)
              go_wp2_with fail
              have hRl : (List.zipWith a32 (hs.map c32) V).length = hs.length := by simp [hVl.out, Hlen.out]
              have HRl := Eqn.mk hRl
              clear hRl
              go_loopw [171] (fun i w4 => ∃ t : Nat, t ≤ 8 ∧ i = .int .i64 t ∧ RB w4 bh 112 (hst kd ((List.zipWith a32 (hs.map c32) V).take t ++ hs.drop t) wt cn) ∧ Mods (fun k => k = bh) w w4) (fun i _ => 8 - (intOf i).toNat)
              case atStart => exact ⟨0, by omega, rfl, by simpa using hh3, hM3.mono (fun _ _ f => f.elim)⟩
              case round =>
                clear hh3 hM3 hk3 hv
                obtain ⟨t, ht, rfl, hh4, hM4⟩ := hrel
                by_cases h8 : t < 8
                · obtain ⟨y, hy, dy⟩ := hst_get hh4 t (by simp [Hlen.out, hVl.out]; omega)
                  obtain ⟨x, hx⟩ : ∃ x, Eqn x (V.getD t 0) := ⟨_, ⟨rfl⟩⟩
                  have Hxv : Eqn (V.map (Value.int .u32))[t]? (some (.int .u32 x)) := ⟨by rw [hx.out]; simp [hVl.out, h8, List.getD]⟩
                  have hf := hh4.free (1 + t)
                  go_wp2_with (with_reducible refine wpList_idx rfl 171 (.tmp 170) (.tmp 171) rfl 8 104 Tryd.underlying171 .u32 Tryd.underlying104 i104 t rfl rfl rfl h8 _ Hxv.out ?_)
                  go_region
                  go_wp2_with fail
                  go_roundw
                  case measure => simp [intOf]; omega
                  case rel =>
                    refine ⟨t + 1, by omega, by go_num, ?_, ?_⟩
                    · have htl : t < hs.length := by rw [Hlen.out]; exact h8
                      have hy2 : y = hs.getD t 0 := by
                        rw [hy.out]
                        simp only [List.getD]
                        rw [List.getElem?_append_right (by simp [HRl.out]; omega)]
                        simp [HRl.out, Nat.min_eq_left (Nat.le_of_lt htl)]
                      have hR : (List.zipWith a32 (hs.map c32) V)[t]? = some ((y + x) % 4294967296) := by
                        have htV : t < V.length := by rw [hVl.out]; exact h8
                        rw [hy2, hx.out, List.getElem?_zipWith]
                        simp [htl, htV, List.getD, a32, c32]
                      have h9 := (hst_set hh4 t ((y + x) % 4294967296) (by simp [HRl.out]; omega)).drew
                      rw [set_over _ hs t _ HRl.out htl hR] at h9
                      exact h9
                    · exact (hM4.setCell (.inl rfl) _).drew
                · obtain rfl : t = 8 := by omega
                  go_wp2_with fail
                  go_end0
                  refine ⟨rfl, ?_, hM4⟩
                  have e : take256 (hs.map c32) blk = (List.zipWith a32 (hs.map c32) V).take 8 ++ hs.drop 8 := by
                    rw [List.take_of_length_le (by rw [HRl.out, Hlen.out]; exact Nat.le_refl _), List.drop_eq_nil_of_le (by rw [Hlen.out]; exact Nat.le_refl _), List.append_nil, take256, ← hvE.out, ← HS.out, ← hV.out]
                  rw [e]
                  exact hh4
end Go.Proofs.YtladijfaeieidaaDoor
