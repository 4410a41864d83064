/- Contracts of the reference hashes: SHA-256. Conditions: a length that an append may come to. -/
import Derived.Test.YtladijfaeieidaaDoorD3
import Derived.Deep.Cut
import Derived.StillTailTactics
import Derived.IntWalk
namespace Go.Proofs.YtladijfaeieidaaDoor
open Go.RowKit

/-- The state after t blocks, as numbers of 32 bits. -/
def eat32 (v m : List Int) : Nat → List Int
  | 0 => v
  | t + 1 => take256 (eat32 v m t) (piece m 64 t)
theorem length_eat32 (v m : List Int) (h : v.length = 8) : ∀ t, (eat32 v m t).length = 8
  | 0 => h
  | t + 1 => length_take256 _ _ (length_eat32 v m h t)
theorem padd_len64 (l : List Int) : (l ++ padd 64 8 l.length).length % 64 = 0 := by
  simp only [List.length_append, padd, List.length_cons, List.length_replicate, en8, List.length_nil, zer]; omega
theorem byt_padd (b r n : Nat) : Byt (padd b r n) := by
  intro y hy
  simp only [padd, List.mem_cons, List.mem_append, List.mem_replicate] at hy
  rcases hy with h | h | h | h
  · omega
  · omega
  · omega
  · exact byt_en8 _ y h
theorem h8080 : (80 : Int) = ((80 : Nat) : Int) := rfl
theorem hq80b : 80 ≤ maxLen := by simp only [maxLen]; omega
theorem h6464 : (64 : Int) = ((64 : Nat) : Int) := rfl
theorem hq64a : 4 * 64 ≤ 281474976710656 := by omega
theorem hq64b : 64 ≤ maxLen := by simp only [maxLen]; omega
theorem lim_64 : Lim 64 := ⟨by omega⟩
theorem stillC {P : Program} {f : FuncId} {args : Array Value} {w : World} {v : Value} (h : Calls P f args w fun e w' => e = .returned v ∧ w = w') : Calls P f args w fun e w' => e = .returned v ∧ w' = w :=
  h.mono (fun _ _ ⟨a, b⟩ => ⟨a, b.symm⟩)
theorem quietC {P : Program} {f : FuncId} {args : Array Value} {w : World} {n : Nat} {v : Value} (h : Calls P f args (w.drewN n) fun e w' => e = .returned v ∧ w.drewN n = w') : Calls P f args (w.drewN n) fun e w'' => e = .returned v ∧ ∃ m, w'' = w.drewN m :=
  Calls.quiet_of_same (stillC h)
/-- What a block's walk keeps: the rest of the message, the state's row, the table; new rows lie at or behind B. -/
structure Keep (w0 : World) (B g : Nat) (ap : Option Addr) (n cp : Nat) (Q : List Int) (te : Nat) (kd : IntKind) (ak : Option Addr) (tn ck : Nat) (T V : List Int) (w : World) : Prop where
  blk : Sv w 5 1 ap n cp (bv Q)
  hv : IB w g te kd V
  tab : Sv w te 1 ak tn ck (T.map (Value.int kd))
  mods : Mods (fun i => i = g) w0 w
  g0 : g < w0.heap.size
  ap0 : ∀ i, In ap i → w0.heap.size ≤ i ∧ i < B
  ak0 : ∀ i, In ak i → w0.heap.size ≤ i ∧ i < B
  b0 : w0.heap.size ≤ B
theorem Keep.go {w0 : World} {B g : Nat} {ap : Option Addr} {n cp : Nat} {Q : List Int} {te : Nat} {kd : IntKind} {ak : Option Addr} {tn ck : Nat} {T V : List Int} {w w' : World} (h : Keep w0 B g ap n cp Q te kd ak tn ck T V w) (hm : Mods (fun i => B ≤ i) w w') : Keep w0 B g ap n cp Q te kd ak tn ck T V w' := by
  have := h.g0; have := h.b0
  refine ⟨h.blk.mods hm (fun i hi => ?_), h.hv.mods hm (by omega), h.tab.mods hm (fun i hi => ?_), h.mods.trans' hm (fun i hi hb => by omega), h.g0, h.ap0, h.ak0, h.b0⟩
  · have := h.ap0 i hi; omega
  · have := h.ak0 i hi; omega
theorem Keep.nix {w0 : World} {B g : Nat} {ap : Option Addr} {n cp : Nat} {Q : List Int} {te : Nat} {kd : IntKind} {ak : Option Addr} {tn ck : Nat} {T V : List Int} {w w' : World} (h : Keep w0 B g ap n cp Q te kd ak tn ck T V w) (hm : Mods Nix w w') : Keep w0 B g ap n cp Q te kd ak tn ck T V w' :=
  h.go (hm.mono (fun _ _ f => f.elim))
theorem Keep.put {w0 : World} {B g : Nat} {ap : Option Addr} {n cp : Nat} {Q : List Int} {te : Nat} {kd : IntKind} {ak : Option Addr} {tn ck : Nat} {T V : List Int} {w : World} (h : Keep w0 B g ap n cp Q te kd ak tn ck T V w) (i : Nat) (v : Int) : Keep w0 B g ap n cp Q te kd ak tn ck T (V.set i v) (w.setCell ⟨g, i, none⟩ (.int kd v)) := by
  have hm := (Mods.refl (fun i => i = g) w).setCell (p := ⟨g, i, none⟩) (.inl rfl) (.int kd v)
  have := h.g0
  refine ⟨h.blk.mods hm (fun i hi => ?_), h.hv.set i v, h.tab.mods hm (fun i hi => ?_), h.mods.setCell (.inl rfl) _, h.g0, h.ap0, h.ak0, h.b0⟩
  · have := h.ap0 i hi; omega
  · have := h.ak0 i hi; omega
theorem Keep.cell {w0 : World} {B g : Nat} {ap : Option Addr} {n cp : Nat} {Q : List Int} {te : Nat} {kd : IntKind} {ak : Option Addr} {tn ck : Nat} {T V : List Int} {w : World} (h : Keep w0 B g ap n cp Q te kd ak tn ck T V w) (i : Nat) (v : Value) : Keep w0 B g ap n cp Q te kd ak tn ck T V (w.setCell ⟨B, i, none⟩ v) := h.go ((Mods.refl (fun i => B ≤ i) w).setCell (p := ⟨B, i, none⟩) (.inl (Nat.le_refl B)) v)
theorem Keep.drew {w0 : World} {B g : Nat} {ap : Option Addr} {n cp : Nat} {Q : List Int} {te : Nat} {kd : IntKind} {ak : Option Addr} {tn ck : Nat} {T V : List Int} {w : World} (h : Keep w0 B g ap n cp Q te kd ak tn ck T V w) : Keep w0 B g ap n cp Q te kd ak tn ck T V w.drew := h.nix (Mods.refl Nix w).drew
theorem Keep.drewN {w0 : World} {B g : Nat} {ap : Option Addr} {n cp : Nat} {Q : List Int} {te : Nat} {kd : IntKind} {ak : Option Addr} {tn ck : Nat} {T V : List Int} {w : World} (h : Keep w0 B g ap n cp Q te kd ak tn ck T V w) (m : Nat) : Keep w0 B g ap n cp Q te kd ak tn ck T V (w.drewN m) := h.nix ((Mods.refl Nix w).drewN m)
theorem Keep.alloc {w0 : World} {B g : Nat} {ap : Option Addr} {n cp : Nat} {Q : List Int} {te : Nat} {kd : IntKind} {ak : Option Addr} {tn ck : Nat} {T V : List Int} {w : World} (h : Keep w0 B g ap n cp Q te kd ak tn ck T V w) (o : Obj) : Keep w0 B g ap n cp Q te kd ak tn ck T V (w.alloc o) := h.nix (alloc_mods w o)
theorem IB.sv {w : World} {g t : Nat} {k : IntKind} {l : List Int} (h : IB w g t k l) {n : Nat} (hl : l.length = n) (hm : n ≤ maxLen) : Sv w t 1 (some ⟨g, 0, none⟩) n n (l.map (Value.int k)) := by
  have := (Own.row (sz := 1) (n := n) h.row.heap (by simp [hl]) hm).toSv
  simpa using this
theorem rd256_of2 (a b c d e f g h kt x : Int) :
    [(h + bits .xor .u32 (bits .xor .u32 (p32_6 e) (p32_11 e)) (p32_25 e) + bits .xor .u32 (bits .and .u32 e f) (bits .and .u32 (bits .xor .u32 (if IntKind.u32.signed = true then -1 else IntKind.u32.max) e) g) + kt + x +
      (bits .xor .u32 (bits .xor .u32 (p32_2 a) (p32_13 a)) (p32_22 a) + bits .xor .u32 (bits .xor .u32 (bits .and .u32 a b) (bits .and .u32 a c)) (bits .and .u32 b c))) % 4294967296, a, b, c,
      (d + (h + bits .xor .u32 (bits .xor .u32 (p32_6 e) (p32_11 e)) (p32_25 e) + bits .xor .u32 (bits .and .u32 e f) (bits .and .u32 (bits .xor .u32 (if IntKind.u32.signed = true then -1 else IntKind.u32.max) e) g) + kt + x)) % 4294967296, e, f, g] =
      rd256 kt x [a, b, c, d, e, f, g, h] := by
  simp only [rd256, a32, Sg1, Sg0, ch32, mj32, not32, List.getD_cons_zero, List.getD_cons_succ, Int.emod_add_emod, Int.add_emod_emod]
theorem bounds_from (n c lo : Nat) (L : Int) (hL : L = (lo : Int)) (h1 : lo ≤ n) (_h2 : n ≤ c) (P : Program) (w : World) : (Instr.sliceBounds true n c (some (.int .i64 L)) none none).run P w = .ok (lo, n, c) w := by
  subst hL
  simp [Instr.sliceBounds, Instr.sliceBound, asIntOf, h1]
theorem blk_word (Q : List Int) (s : Nat) (h : s < 16) : (((Q.take 64).drop (4 * s)).take 4) = ((Q.drop (4 * s)).take 4) := by
  rw [List.drop_take, List.take_take, Nat.min_eq_left (by omega)]
set_option maxRecDepth 100000 in
set_option maxHeartbeats 4000000 in
theorem f87 (w : World) (a : Option Addr) (n c : Nat) (l : List Int) (hs : Sv w 5 1 a n c (bv l)) (hl : Lim (n + 300)) (hB : Byt l) (g : Nat) (v : List Int) (hv : v.length = 8) (hiv : IB w g 104 .u32 v) :
    Calls Tryd.prog 87 #[.slice a n c, .slice (some ⟨g, 0, none⟩) 8 8] w fun e w' => ∃ a' c', e = .returned (.slice a' 32 c') ∧ Own w' 5 1 a' 32 c' (bv ((eat32 v (l ++ padd 64 8 l.length) ((l ++ padd 64 8 l.length).length / 64)).flatMap en4)) ∧ New w.heap.size a' ∧ Mods (fun i => i = g) w w' := by
  have hnl : Eqn l.length n := ⟨by have := hs.len; simpa [bv] using this⟩
  have hvl := Eqn.mk hv
  clear hv
  have T2 : ∀ {w1}, Mods Nix w w1 → Calls Tryd.prog 125 #[.slice a n c, .int .i64 64, .int .i64 8] w1 fun e w' => ∃ a' k' c', e = .returned (.slice a' k' c') ∧ Eqn k' (l ++ padd 64 8 l.length).length ∧ SumOut w1 w' a' k' c' (l ++ padd 64 8 l.length) := fun hM => (f125_64 _ a n c l (hs.mods hM (fun _ _ f => f)) hl).mono (fun e w' ⟨a', k', c', h1, h2, h3⟩ => ⟨a', k', c', h1, ⟨h2⟩, h3⟩)
  go_enter Tryd.func87, Tryd.ntmps87
  go_upto_region 2 with (go_at_call 129; refine (f129 _).mono ?_; rintro e w1 ⟨ak, ck, rfl, hT⟩)
  have T3 := T2 hT.mods
  go_wp2_with (go_at_call 125; refine T3.mono ?_; rintro e w2 ⟨ap, np, cp, rfl, hnp, hS⟩)
  obtain ⟨P, hP⟩ : ∃ P, Eqn P (l ++ padd 64 8 l.length) := ⟨_, ⟨rfl⟩⟩
  rw [← hP.out] at hS hnp
  obtain ⟨N, hN⟩ : ∃ N, Eqn np (64 * N) := ⟨np / 64, ⟨by rw [hnp.out, hP.out]; have := padd_len64 l; omega⟩⟩
  have hPl : Eqn P.length np := ⟨hnp.out.symm⟩
  clear hnp T2 T3
  have hM2 : Mods Nix w w2 := hT.mods.trans' hS.mods (fun _ _ f => f)
  have hTab : Sv w2 104 1 ak 64 ck (k256.map (Value.int .u32)) := hT.own.toSv.mods hS.mods (fun _ _ f => f)
  have hPB : Byt P := by rw [hP.out]; exact hB.app (byt_padd _ _ _)
  have hgw := hiv.lt
  have hapN : ∀ i, In ap i → w.heap.size ≤ i := by rintro i ⟨ad, e, rfl⟩; have := hS.fresh ad e; have := hT.mods.size; omega
  have hakN : ∀ i, In ak i → w.heap.size ≤ i := by rintro i ⟨ad, e, rfl⟩; exact hT.fresh ad e
  go_loopw [6] (fun o wr => ∃ (t nn : Nat) (a' : Option Addr) (c' : Nat), t ≤ N ∧ Eqn nn (64 * (N - t)) ∧ o = .slice a' nn c' ∧ Sv wr 5 1 a' nn c' (bv (P.drop (64 * t))) ∧ (∀ i, In a' i → w.heap.size ≤ i) ∧ IB wr g 104 .u32 (eat32 v P t) ∧ Sv wr 104 1 ak 64 ck (k256.map (Value.int .u32)) ∧ Mods (fun i => i = g) w wr) (fun o _ => lenV o)
  case atStart => 
    refine ⟨0, np, ap, cp, Nat.zero_le _, ⟨by rw [Nat.sub_zero, ← hN.out]⟩, rfl, ?_, hapN, hiv.mods hM2 (fun f => f), hTab, hM2.mono (fun _ _ f => f.elim)⟩
    simpa using hS.own.toSv
  case round =>
    obtain ⟨t, nn, a', c', ht, hnn, rfl, hD, hDN, hV, hK, hM⟩ := hrel
    by_cases h8 : t < N
    · have hn64 : 64 ≤ nn := by have := hnn.out; omega
      have hpos : (0 : Int) < (nn : Nat) := by omega
      go_upto_region 6 with (first | (with_reducible refine wpList_mk rfl (.const (.int .i64 64)) (.const (.int .i64 64)) ei105 rfl rfl 64 rfl rfl h6464 h6464 hq64a hq64b ?_; intro _))
      have hcc := hD.le
      obtain ⟨bp, op, rfl⟩ := hD.addr (by omega)
      obtain ⟨W0, hW0⟩ : ∃ W0, Eqn W0 (wr.alloc (.cells (List.replicate 64 (.int .u32 0)).toArray 104)) := ⟨_, ⟨rfl⟩⟩
      change Code.wp _ _ _ _ (wr.alloc (.cells (List.replicate 64 (.int .u32 0)).toArray 104))
      rw [← hW0.out]
      have hW00 : IB W0 wr.heap.size 104 .u32 (List.replicate 64 0) := by rw [hW0.out]; exact IB.new wr (List.replicate 64 0) .u32 104
      have hMW : Mods Nix wr W0 := by rw [hW0.out]; exact alloc_mods _ _
      obtain ⟨B, hBB⟩ : ∃ B, Eqn B wr.heap.size := ⟨_, ⟨rfl⟩⟩
      rw [← hBB.out] at hW00 ⊢
      have hwB : w.heap.size ≤ B := by rw [hBB.out]; exact hM.size
      obtain ⟨Q, hQ⟩ : ∃ Q, Eqn Q (P.drop (64 * t)) := ⟨_, ⟨rfl⟩⟩
      rw [← hQ.out] at hD
      have hQl : Eqn Q.length nn := ⟨by have := hD.len; simpa [bv] using this⟩
      have hQB : Byt Q := by rw [hQ.out]; exact hPB.drop _
      obtain ⟨blk, hblk⟩ : ∃ blk, Eqn blk (Q.take 64) := ⟨_, ⟨rfl⟩⟩
      obtain ⟨V, hVV⟩ : ∃ V, Eqn V (eat32 v P t) := ⟨_, ⟨rfl⟩⟩
      rw [← hVV.out] at hV
      have hVl : Eqn V.length 8 := ⟨by rw [hVV.out]; exact length_eat32 _ _ hvl.out _⟩
      have hKp0 : Keep w B g (some ⟨bp, op, none⟩) nn c' Q 104 .u32 ak 64 ck k256 V wr := ⟨hD, hV, hK, hM, hgw, fun i hi => ⟨hDN i hi, by obtain ⟨ad, e, rfl⟩ := hi; have := hD.lt ad e; have := hBB.out; omega⟩, fun i hi => ⟨hakN i hi, by obtain ⟨ad, e, rfl⟩ := hi; have := hK.lt ad e; have := hBB.out; omega⟩, hwB⟩
      have hKp := hKp0.nix hMW
      clear hKp0 hD hV hK hM hW0 hMW
      go_wp2_with fail
      go_loopw [8] (fun i w2 => ∃ s : Nat, s ≤ 64 ∧ i = .int .i64 s ∧ IB w2 B 104 .u32 (sched 4 nw256 blk s ++ List.replicate (64 - s) 0) ∧ Keep w B g (some ⟨bp, op, none⟩) nn c' Q 104 .u32 ak 64 ck k256 V w2) (fun i _ => 64 - (intOf i).toNat)
      case atStart => exact ⟨0, by omega, rfl, hW00, hKp⟩
      case round =>
        clear hW00 hKp
        obtain ⟨s, hs, rfl, hw, hKp⟩ := hrel
        have hsl := Eqn.mk (length_sched 4 nw256 blk s)
        by_cases h64 : s < 64
        · by_cases h16 : s < 16
          ·
            obtain ⟨x0, _, hx0⟩ := hw.cell s (by simp [hsl.out]; omega)
            have hf := hw.free s
            have hgt := word (w := wr) (a := some ⟨bp, op + 4 * s, none⟩) (n := nn - 4 * s) (c := c' - 4 * s) (l := Q.drop (4 * s)) (by rw [← bv_drop]; exact hKp.blk.tail _ (by omega) (by omega)) (by rw [List.length_drop, hQl.out]) (by omega) (hQB.drop _)
            go_wp2_with (go_at_call 126; refine hgt.mono ?_; rintro e w' ⟨rfl, nq, rfl⟩)
            go_roundw
            case measure => simp [intOf]; omega
            case rel =>
              refine ⟨s + 1, by omega, by go_num, ?_, ?_⟩
              · exact sched_put (hw.drewN _) (by omega) (by rw [if_pos h16, hblk.out, blk_word Q s h16])
              · exact (hKp.drewN _).cell _ _
          ·
            obtain ⟨k, rfl⟩ : ∃ k, s = k + 16 := ⟨s - 16, by omega⟩
            obtain ⟨x15, E15, hx15⟩ := hw.cell (k + 1) (by simp [hsl.out]; omega)
            obtain ⟨x2, E2, hx2⟩ := hw.cell (k + 14) (by simp [hsl.out]; omega)
            obtain ⟨x16, E16, hx16⟩ := hw.cell k (by simp [hsl.out]; omega)
            obtain ⟨x7, E7, hx7⟩ := hw.cell (k + 9) (by simp [hsl.out]; omega)
            obtain ⟨x0, _, hx0⟩ := hw.cell (k + 16) (by simp [hsl.out]; omega)
            have hf := hw.free (k + 16)
            go_wp2_with fail
            have q0 : (0 : Int) ≤ k := by omega
            have q1 : (k : Int) < 64 := by omega
            have q2 : IntKind.i64.wrap (k : Int) = k := IntWalk.i64_in _ (by omega)
            have q3 : IntKind.i64.wrap ((k : Int) + 16 - 7) = (k : Int) + 9 := by
              rw [IntWalk.i64_in _ (by omega)]; omega
            have q4 : (0 : Int) ≤ (k : Int) + 9 := by omega
            have q5 : (k : Int) + 9 < 64 := by omega
            have q6 : ((k : Int) + 9).toNat = k + 9 := by omega
            have q7 : IntKind.i64.wrap ((k : Int) + 16) = (k : Int) + 16 := IntWalk.i64_in _ (by omega)
            have q8 : ((k : Int) + 16).toNat = k + 16 := by omega
            refine wp_region_still_tail 31 (by kernel_rfl) (by kernel_rfl) ?_
            simp only [List.take_succ_cons, List.take_zero, List.drop_succ_cons, List.drop_zero]
            repeat still_step
            still_call (stillC (f130_7 _ _))
            repeat still_step
            still_call (stillC (f130_18 _ _))
            repeat still_step
            still_call (stillC (f130_17 _ _))
            repeat still_step
            still_call (stillC (f130_19 _ _))
            repeat still_step
            refine wpStill_nil ?_
            change wpList _ _ _ _ _ wr.drew
            go_wp2_with fail
            clear q0 q1 q2 q3 q4 q5 q6 q7 q8
            go_roundw
            case measure => simp [intOf]; omega
            case rel =>
              refine ⟨k + 16 + 1, by omega, by go_num, ?_, hKp.drew.cell _ _⟩
              exact sched_put hw.drew (by omega) (by rw [if_neg (by omega)]; exact nw256_of hsl.out E15 E2 E16 E7)
        · obtain rfl : s = 64 := by omega
          obtain ⟨S, hS6⟩ : ∃ S, Eqn S (sched 4 nw256 blk 64) := ⟨_, ⟨rfl⟩⟩
          have hSl : Eqn S.length 64 := ⟨by rw [hS6.out]; exact hsl.out⟩
          rw [← hS6.out] at hw
          have hw' : IB wr B 104 .u32 S := by simpa using hw
          clear hw hsl hs h64
          have hVS : Sv wr 104 1 (some ⟨g, 0, none⟩) 8 8 (V.map (Value.int .u32)) := hKp.hv.sv hVl.out (by simp only [maxLen]; omega)
          have hone : ∀ u ∈ V.map (Value.int .u32), u.oneCell' = true := by
            intro u hu
            obtain ⟨_, _, rfl⟩ := List.mem_map.1 hu
            rfl
          have hON : ∀ w : World, Own w 104 1 none 0 0 [] := fun w => Own.none w _ _
          go_upto_region 15 with (at_builtin; refine wpList_app rfl (.const (.slice none 0 0)) (.tmp 83) ei105 rfl (hON _) hVS rfl rfl hone (by omega) (by simp only [maxLen]; omega) ?_; intro av cv wv hOv)
          have hMv : Mods Nix wr wv := hOv.mods.mono (fun i _ ⟨ad, e, _⟩ => by cases e)
          have hKv := hKp.nix hMv
          have hwv := hw'.mods hMv (fun f => f)
          have hSvv : Sv wv 104 1 av 8 cv (V.map (Value.int .u32)) := by have := hOv.own.toSv; simpa using this
          have hNv : New w.heap.size av := hOv.new (New.none _) hKp.mods.size
          clear hOv hMv hKp hw' hVS hone hON
          go_wp2_with fail
          go_loopw [11, 12] (fun o i w3 => ∃ (s : Nat) (av : Option Addr) (cv : Nat), s ≤ 64 ∧ i = .int .i64 s ∧ o = .slice av 8 cv ∧ New w.heap.size av ∧ Sv w3 104 1 av 8 cv ((rounds256 S V s).map (Value.int .u32)) ∧ IB w3 B 104 .u32 S ∧ Keep w B g (some ⟨bp, op, none⟩) nn c' Q 104 .u32 ak 64 ck k256 V w3) (fun _ i _ => 64 - (intOf i).toNat)
          case atStart => exact ⟨0, av, cv, by omega, rfl, rfl, hNv, hSvv, hwv, hKv⟩
          case round =>
            clear hSvv hwv hKv hNv
            obtain ⟨s, av, cv, hs, rfl, rfl, hNv, hv, hw, hKp⟩ := hrel
            by_cases h64 : s < 64
            ·
              obtain ⟨a0, b0, c0, d0, e0, f0, g0, h0, hE⟩ := eight _ (length_rounds256 S V hVl.out s)
              rw [hE] at hv
              have HE := Eqn.mk hE
              clear hE
              have hcv := hv.le
              obtain ⟨bv', ov, rfl⟩ := hv.addr (by omega)
              have d0' : wr.cell? ⟨bv', ov, none⟩ = some (.int .u32 a0) := hv.cell (i := 0) rfl
              have d1' : wr.cell? ⟨bv', ov + 1, none⟩ = some (.int .u32 b0) := hv.cell (i := 1) rfl
              have d2' : wr.cell? ⟨bv', ov + 2, none⟩ = some (.int .u32 c0) := hv.cell (i := 2) rfl
              have d3' : wr.cell? ⟨bv', ov + 3, none⟩ = some (.int .u32 d0) := hv.cell (i := 3) rfl
              have d4' : wr.cell? ⟨bv', ov + 4, none⟩ = some (.int .u32 e0) := hv.cell (i := 4) rfl
              have d5' : wr.cell? ⟨bv', ov + 5, none⟩ = some (.int .u32 f0) := hv.cell (i := 5) rfl
              have d6' : wr.cell? ⟨bv', ov + 6, none⟩ = some (.int .u32 g0) := hv.cell (i := 6) rfl
              have d7' : wr.cell? ⟨bv', ov + 7, none⟩ = some (.int .u32 h0) := hv.cell (i := 7) rfl
              obtain ⟨bk, ok, hak⟩ := hKp.tab.addr (by omega)
              have hck := hKp.tab.le
              have hakE := Eqn.mk hak
              clear hak
              obtain ⟨kt, hkt⟩ : ∃ kt, Eqn kt (K s / 4294967296) := ⟨_, ⟨rfl⟩⟩
              have dk : wr.cell? ⟨bk, ok + s, none⟩ = some (.int .u32 kt) := by
                have h9 := hKp.tab
                rw [hakE.out] at h9
                refine h9.cell ?_
                rw [hkt.out]; simp [k256, h64]
              obtain ⟨x, hx⟩ : ∃ x, Eqn x (S.getD s 0) := ⟨_, ⟨rfl⟩⟩
              have dx : wr.cell? ⟨B, s, none⟩ = some (.int .u32 x) := hw.row.cell (by rw [hx.out]; simp [hSl.out, h64, List.getD])
              have q0 : (0 : Int) ≤ s := by omega
              have q1 : (s : Int) < 64 := by omega
              have haks := hakE.out
              subst haks
              clear hakE
              go_wp2_with fail
              refine wp_region_still_tail 35 (by kernel_rfl) (by kernel_rfl) ?_
              simp only [List.take_succ_cons, List.take_zero, List.drop_succ_cons, List.drop_zero]
              repeat still_step
              still_call (stillC (f130_6 _ _))
              repeat still_step
              still_call (stillC (f130_11 _ _))
              repeat still_step
              still_call (stillC (f130_25 _ _))
              repeat still_step
              refine wpStill_nil ?_
              change wpList _ _ _ _ _ wr.drew
              obtain ⟨wa, hwa⟩ : ∃ wa, Eqn wa wr.drew := ⟨_, ⟨rfl⟩⟩
              have d0'wa : wa.cell? ⟨bv', ov, none⟩ = some (.int .u32 a0) := by rw [hwa.out]; exact d0'
              have d1'wa : wa.cell? ⟨bv', ov + 1, none⟩ = some (.int .u32 b0) := by rw [hwa.out]; exact d1'
              have d2'wa : wa.cell? ⟨bv', ov + 2, none⟩ = some (.int .u32 c0) := by rw [hwa.out]; exact d2'
              have d3'wa : wa.cell? ⟨bv', ov + 3, none⟩ = some (.int .u32 d0) := by rw [hwa.out]; exact d3'
              have d4'wa : wa.cell? ⟨bv', ov + 4, none⟩ = some (.int .u32 e0) := by rw [hwa.out]; exact d4'
              have d5'wa : wa.cell? ⟨bv', ov + 5, none⟩ = some (.int .u32 f0) := by rw [hwa.out]; exact d5'
              have d6'wa : wa.cell? ⟨bv', ov + 6, none⟩ = some (.int .u32 g0) := by rw [hwa.out]; exact d6'
              have d7'wa : wa.cell? ⟨bv', ov + 7, none⟩ = some (.int .u32 h0) := by rw [hwa.out]; exact d7'
              rw [← hwa.out]
              go_wp2_with fail
              refine wp_region_still_tail 28 (by kernel_rfl) (by kernel_rfl) ?_
              simp only [List.take_succ_cons, List.take_zero, List.drop_succ_cons, List.drop_zero]
              repeat still_step
              still_call (stillC (f130_2 _ _))
              repeat still_step
              still_call (stillC (f130_13 _ _))
              repeat still_step
              still_call (stillC (f130_22 _ _))
              repeat still_step
              refine wpStill_nil ?_
              change wpList _ _ _ _ _ wa.drew
              obtain ⟨wb, hwb⟩ : ∃ wb, Eqn wb wa.drew := ⟨_, ⟨rfl⟩⟩
              have d0'wb : wb.cell? ⟨bv', ov, none⟩ = some (.int .u32 a0) := by rw [hwb.out]; exact d0'wa
              have d1'wb : wb.cell? ⟨bv', ov + 1, none⟩ = some (.int .u32 b0) := by rw [hwb.out]; exact d1'wa
              have d2'wb : wb.cell? ⟨bv', ov + 2, none⟩ = some (.int .u32 c0) := by rw [hwb.out]; exact d2'wa
              have d3'wb : wb.cell? ⟨bv', ov + 3, none⟩ = some (.int .u32 d0) := by rw [hwb.out]; exact d3'wa
              have d4'wb : wb.cell? ⟨bv', ov + 4, none⟩ = some (.int .u32 e0) := by rw [hwb.out]; exact d4'wa
              have d5'wb : wb.cell? ⟨bv', ov + 5, none⟩ = some (.int .u32 f0) := by rw [hwb.out]; exact d5'wa
              have d6'wb : wb.cell? ⟨bv', ov + 6, none⟩ = some (.int .u32 g0) := by rw [hwb.out]; exact d6'wa
              have d7'wb : wb.cell? ⟨bv', ov + 7, none⟩ = some (.int .u32 h0) := by rw [hwb.out]; exact d7'wa
              rw [← hwb.out]
              go_wp2_with fail
              refine wp_region_still_tail 26 (by kernel_rfl) (by kernel_rfl) ?_
              simp only [List.take_succ_cons, List.take_zero, List.drop_succ_cons, List.drop_zero]
              repeat still_step
              refine wpStill_nil ?_
              change wpList _ _ _ _ _ wb.drew
              go_wp2_with fail
              go_roundw
              case measure => simp [intOf]; omega
              case rel =>
                have hwb9 : IB wb.drew B 104 .u32 S := by rw [hwb.out, hwa.out]; exact hw.drew.drew.drew
                have hKb9 : Keep w B g (some ⟨bp, op, none⟩) nn c' Q 104 .u32 (some ⟨bk, ok, none⟩) 64 ck k256 V wb.drew := by rw [hwb.out, hwa.out]; exact hKp.drew.drew.drew
                have hwbz : w.heap.size ≤ wb.heap.size := hKb9.mods.size
                have hS9 := (own_lit wb.drew ((rd256 kt x [a0, b0, c0, d0, e0, f0, g0, h0]).map (Value.int .u32)) 104 8 rfl (by simp only [maxLen]; omega)).toSv
                refine ⟨s + 1, some ⟨wb.heap.size, 0, none⟩, 8, by omega, by go_num, rfl, (new_alloc wb).mono hwbz, ?_, ?_, ?_⟩
                · rw [rounds256, HE.out, ← hkt.out, ← hx.out]
                  rw [← rd256_of2] at hS9 ⊢
                  exact hS9
                · exact hwb9.alloc _
                · exact hKb9.alloc _
            · obtain rfl : s = 64 := by omega
              obtain ⟨R, hR⟩ : ∃ R, Eqn R (rounds256 S V 64) := ⟨_, ⟨rfl⟩⟩
              have hRl : Eqn R.length 8 := ⟨by rw [hR.out]; exact length_rounds256 _ _ hVl.out _⟩
              rw [← hR.out] at hv
              have hZl : Eqn (List.zipWith a32 V R).length V.length := ⟨by simp [hVl.out, hRl.out]⟩
              have hvc := hv.le
              obtain ⟨bv', ov, rfl⟩ := hv.addr (by omega)
              have hnb : ∀ i, In (some (⟨bv', ov, none⟩ : Addr)) i → ¬ i = g := by rintro i ⟨ad, e, hb⟩; have := hNv ad e; omega
              clear hw h64 hs
              go_wp2_with fail
              go_loopw [17] (fun i w4 => ∃ s : Nat, s ≤ 8 ∧ i = .int .i64 s ∧ Sv w4 104 1 (some ⟨bv', ov, none⟩) 8 cv (R.map (Value.int .u32)) ∧ Keep w B g (some ⟨bp, op, none⟩) nn c' Q 104 .u32 ak 64 ck k256 ((List.zipWith a32 V R).take s ++ V.drop s) w4) (fun i _ => 8 - (intOf i).toNat)
              case atStart => exact ⟨0, by omega, rfl, hv, by simpa using hKp⟩
              case round =>
                clear hv hKp
                obtain ⟨s, hs, rfl, hv, hKp⟩ := hrel
                by_cases h8' : s < 8
                · obtain ⟨y, hy, dy⟩ := hKp.hv.cell s (by simp [hVl.out, hRl.out]; omega)
                  obtain ⟨x, hx⟩ : ∃ x, Eqn x (R.getD s 0) := ⟨_, ⟨rfl⟩⟩
                  have dx : wr.cell? ⟨bv', ov + s, none⟩ = some (.int .u32 x) := hv.cell (by rw [hx.out]; simp [hRl.out, h8', List.getD])
                  have hf := hKp.hv.free s
                  have q0 : (0 : Int) ≤ s := by omega
                  have q1 : (s : Int) < 8 := by omega
                  go_wp2_with fail
                  go_region
                  go_wp2_with fail
                  go_roundw
                  case measure => simp [intOf]; omega
                  case rel =>
                    have htl : s < V.length := by rw [hVl.out]; exact h8'
                    have hy2 : y = V.getD s 0 := by
                      rw [hy.out]
                      simp only [List.getD]
                      rw [List.getElem?_append_right (by simp [hZl.out]; omega)]
                      simp [hZl.out, Nat.min_eq_left (Nat.le_of_lt htl)]
                    have hRR : (List.zipWith a32 V R)[s]? = some ((y + x) % 4294967296) := by
                      have htV : s < R.length := by rw [hRl.out]; exact h8'
                      rw [hy2, hx.out, List.getElem?_zipWith]
                      simp [htl, htV, List.getD, a32]
                    have hm9 := (Mods.refl (fun i => i = g) wr).setCell (p := ⟨g, s, none⟩) (.inl rfl) (.int .u32 ((y + x) % 4294967296))
                    refine ⟨s + 1, by omega, by go_num, (hv.mods hm9 hnb).mods ((Mods.refl Nix _).drew) (fun _ _ f => f), ?_⟩
                    have h9 := hKp.put s ((y + x) % 4294967296)
                    rw [set_over _ V s _ hZl.out htl hRR] at h9
                    exact h9.drew
                · obtain rfl : s = 8 := by omega
                  have e : take256 V blk = (List.zipWith a32 V R).take 8 ++ V.drop 8 := by
                    rw [List.take_of_length_le (by rw [hZl.out, hVl.out]; exact Nat.le_refl _), List.drop_eq_nil_of_le (by rw [hVl.out]; exact Nat.le_refl _), List.append_nil, take256, ← hS6.out, ← hR.out]
                  rw [← e] at hKp
                  clear e
                  have hcn := hKp.blk.le
                  go_wp2_with (first | (with_reducible refine wpList_sub rfl (.tmp 24) (some (.const (.int .i64 64))) none none ei22 rfl rfl hKp.blk 64 nn c' hn64 (Nat.le_refl _) hcn (Nat.le_refl _) (bounds_from _ _ _ _ h6464 hn64 hcn _ _) ?_; intro a9 hS9))
                  go_roundw
                  case measure => simp only [lenV]; omega
                  case rel =>
                    refine ⟨t + 1, nn - 64, a9, c' - 64, h8, ⟨by have := hnn.out; omega⟩, rfl, ?_, fun i hi => (hKp.ap0 i (hS9.sub i hi)).1, ?_, hKp.tab, hKp.mods⟩
                    · have h9 := hS9.sv
                      rw [bv_drop, hQ.out, List.drop_drop, bv_take, List.take_of_length_le (by have := hQl.out; rw [hQ.out] at this; simp at this ⊢; omega)] at h9
                      rw [show 64 * (t + 1) = 64 * t + 64 * 1 from by omega]
                      exact h9
                    · have h9 := hKp.hv
                      rw [eat32, ← hVV.out, piece, ← hQ.out, ← hblk.out]
                      exact h9
    · obtain rfl : t = N := by omega
      have hn0 : nn = 0 := by have := hnn.out; omega
      subst hn0
      have e : t = (l ++ padd 64 8 l.length).length / 64 := by rw [← hP.out, hPl.out, hN.out]; omega
      have hVl : Eqn (eat32 v P t).length 8 := ⟨length_eat32 _ _ hvl.out _⟩
      have hVS := hV.sv hVl.out (by simp only [maxLen]; omega)
      have T5 := f128 wr _ 8 8 _ hVS (by omega)
      go_wp2_with (go_at_call 128; refine T5.mono ?_; rintro e9 w9 ⟨a9, c9, rfl, hS9⟩)
      go_ret
      refine ⟨a9, c9, rfl, ?_, hS9.fresh.mono hM.size, hM.trans' hS9.mods (fun _ _ f => f.elim)⟩
      rw [← e, ← hP.out]
      exact hS9.own
end Go.Proofs.YtladijfaeieidaaDoor
