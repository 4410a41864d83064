/- Contracts of the reference: PBKDF2. Conditions: lengths that an append may come to. -/
import Derived.Test.YtladijfaeieidaaDoorD10
import Derived.Test.YtladijfaeieidaaDoorC15
namespace Go.Proofs.YtladijfaeieidaaDoor
open Go.RowKit

set_option maxRecDepth 100000 in
set_option maxHeartbeats 2000000 in
theorem f41 (w : World) (k : Int) (hk : Kd k) (x : Option Addr) (n c : Nat) (pin : List Int) (hpin : KeyIn w x n c pin) (y : Option Addr) (ns cs : Nat) (salt : List Int) (hsalt : Sv w 5 1 y ns cs (bv salt)) (hsB : Byt salt) (hsl : Lim (salt.length + 2000))
    (r N : Nat) (r1 : 1 ≤ r) (r2 : r ≤ 65536) (n1 : 1 ≤ N) (n2 : N ≤ 65536) (hrR : r * ((N + hsz k - 1) / hsz k) ≤ 65536) :
    Calls Tryd.prog 41 #[.int .i64 k, .slice x n c, .slice y ns cs, .int .i64 r, .int .i64 N] w fun e w' => ∃ a' c', e = .returned (.slice a' N c') ∧ SvOut w w' a' N c' (pbk k pin salt r N) := by
  have hz := hsz_pos hk
  have hz64 := hsz_le hk
  have hz0 : ((hsz k : Int) == 0) = false := by simp; omega
  obtain ⟨R, hR⟩ : ∃ R, Eqn R ((N + hsz k - 1) / hsz k) := ⟨_, ⟨rfl⟩⟩
  have hP : Pcs N (hsz k) R := by rw [hR.out]; exact pcs N (hsz k) hz
  have hRN : R ≤ 65536 := Nat.le_trans hP.le n2
  rw [← hR.out] at hrR
  have i1 : (1 : Int) ≤ r := by omega
  obtain ⟨X, hX⟩ : ∃ X : Int, Eqn X 65536 := ⟨_, ⟨rfl⟩⟩
  have i2 : (r : Int) ≤ X := by rw [hX.out]; omega
  have i3 : (1 : Int) ≤ N := by omega
  have i4 : (N : Int) ≤ X := by rw [hX.out]; omega
  have q1 : ((N : Int) + hsz k - 1) / hsz k = (R : Int) := by
    rw [hR.out, Int.natCast_ediv]
    congr 1
    omega
  have q2 : ((N : Int) + hsz k - 1).tdiv (hsz k) = (R : Int) := by
    rw [Int.tdiv_eq_ediv_of_nonneg (by omega)]
    exact q1
  obtain ⟨D, hD⟩ : ∃ D, D = 65536 / r := ⟨_, rfl⟩
  have hRD : R ≤ D := by rw [hD, Nat.le_div_iff_mul_le (by omega), Nat.mul_comm]; exact hrR
  have q3 : X / r = (D : Int) := by rw [hX.out, hD]; simp [Int.natCast_ediv]
  have q4 : X.tdiv r = (D : Int) := by
    rw [Int.tdiv_eq_ediv_of_nonneg (by rw [hX.out]; omega)]
    exact q3
  have q5 : (hsz k : Int) ≤ 64 := by omega
  have q6 : (0 : Int) < hsz k := by omega
  have q7 : (R : Int) ≤ D := by omega
  have q8 : ¬ (r : Int) = 0 := by omega
  have q9 : ¬ (hsz k : Int) = 0 := by omega
  have q10 : IntKind.i64.wrap ((N : Int) + hsz k) = (N : Int) + hsz k := IntWalk.i64_in _ (by omega)
  have q11 : IntKind.i64.wrap ((N : Int) + hsz k - 1) = (N : Int) + hsz k - 1 := IntWalk.i64_in _ (by omega)
  have hD6 : D ≤ 65536 := by rw [hD]; exact Nat.div_le_self _ _
  have q12 : wrap64 (D : Int) = D := by unfold wrap64; omega
  have d1 : decide ((r : Int) < 1) = false := by simp; omega
  have d2 : decide (X < (r : Int)) = false := by rw [hX.out]; simp; omega
  have d3 : decide ((N : Int) < 1) = false := by simp; omega
  have d4 : decide (X < (N : Int)) = false := by rw [hX.out]; simp; omega
  have d5 : decide ((D : Int) < R) = false := by simp; omega
  clear hD
  go_enter Tryd.func41, Tryd.ntmps41
  go_wp2_with (go_at_call 28; refine (f28 k _).mono ?_; rintro e w' ⟨rfl, rfl⟩)
  rw [← hX.out]
  go_quiet (fail)
  clear q1 q2 q3 q4 q7 q8 q9 q10 q11 q12 d1 d2 d3 d4 d5
  obtain ⟨W3, hW3⟩ : ∃ W3, Eqn W3 (w.drewN nq) := ⟨_, ⟨rfl⟩⟩
  rw [← hW3.out]
  have hM3 : Mods Nix w W3 := by rw [hW3.out]; exact (Mods.refl Nix w).drewN _
  go_wp2_with fail
  go_loopw [12, 13] (fun o i wr => ∃ (t nn : Nat) (a' : Option Addr) (c' : Nat), t ≤ R ∧ Eqn nn (hsz k * t) ∧ i = .int .i64 ((t : Int) + 1) ∧ o = .slice a' nn c' ∧ Own wr 5 1 a' nn c' (bv (pbN k pin salt r t)) ∧ New W3.heap.size a' ∧ Mods Nix W3 wr) (fun _ i _ => R + 1 - (intOf i).toNat)
  case atStart => exact ⟨0, 0, none, 0, Nat.zero_le _, ⟨by simp⟩, rfl, rfl, own_nil _, New.none _, Mods.refl _ _⟩
  case round =>
    obtain ⟨t, nn, a', c', ht, hnn, rfl, rfl, hO, hN, hM⟩ := hrel
    by_cases h8 : t < R
    · have hlt : nn < N := by rw [hnn.out]; exact (hP.iff t).1 h8
      have ht6 : t < 65536 := by omega
      have hM0 : Mods Nix w wr := hM3.trans' hM (fun _ _ f => f)
      have T99 : Calls Tryd.prog 99 #[.int .i64 ((t : Int) + 1)] wr fun e w' => e = .returned (.slice (some ⟨wr.heap.size, 0, none⟩) 4 4) ∧ SumOut wr w' (some ⟨wr.heap.size, 0, none⟩) 4 4 (en4 ((t + 1 : Nat) : Int)) := f99 wr (t + 1) (by omega)
      obtain ⟨M, hMm⟩ : ∃ M, Eqn M (salt ++ en4 ((t + 1 : Nat) : Int)) := ⟨_, ⟨rfl⟩⟩
      have hMB : Byt M := by rw [hMm.out]; exact hsB.app (byt_en4 _)
      have hMl : Eqn M.length (salt.length + 4) := ⟨by rw [hMm.out]; simp [en4]⟩
      have T100 : ∀ {w1 : World} {a4 : Option Addr}, SumOut wr w1 a4 4 4 (en4 ((t + 1 : Nat) : Int)) →
          Calls Tryd.prog 100 #[.slice (some ⟨w1.heap.size, 0, none⟩) 2 2] (w1.alloc (.cells #[.slice y ns cs, .slice a4 4 4] 22)) fun e w' => ∃ a' k' c', e = .returned (.slice a' k' c') ∧ Eqn k' M.length ∧ SumOut wr w' a' k' c' M := by
        intro w1 a4 hS
        have hb := bs_two (hsalt.mods (hM0.trans' hS.mods (fun _ _ f => f)) (fun _ _ f => f)) hS.own.toSv hsB (byt_en4 _)
        have hMe : Mods Nix wr (w1.alloc (.cells #[.slice y ns cs, .slice a4 4 4] 22)) := hS.mods.alloc _
        refine (f100 _ _ 2 2 _ hb (hsl.of (by simp [en4]))).mono ?_
        rintro e w' ⟨a5, k5, c5, he, hk5, hS5⟩
        have e9 : [salt, en4 ((t + 1 : Nat) : Int)].flatten = M := by rw [hMm.out]; simp
        rw [e9] at hk5 hS5
        exact ⟨a5, k5, c5, he, hk5, hS5.own, hS5.fresh.mono hMe.size, hMe.trans' hS5.mods (fun _ _ f => f)⟩
      have T36 : ∀ {w1 : World} {a4 : Option Addr} {k4 c4 : Nat}, Eqn k4 M.length → SumOut wr w1 a4 k4 c4 M →
          Calls Tryd.prog 36 #[.int .i64 k, .slice x n c, .slice a4 k4 c4] w1 fun e w' => ∃ a' c', e = .returned (.slice a' (hsz k) c') ∧ SumOut wr w' a' (hsz k) c' (pbT k pin M 0) := by
        intro w1 a4 k4 c4 hk4 hS
        refine (f36 w1 k hk x n c pin ⟨hpin.sv.mods (hM0.trans' hS.mods (fun _ _ f => f)) (fun _ _ f => f), hpin.byt, hpin.lim⟩ a4 k4 c4 M hS.own.toSv hMB (hsl.of (by rw [hk4.out, hMl.out]; omega))).mono ?_
        rintro e w' ⟨a5, c5, he, hS5⟩
        exact ⟨a5, c5, he, hS5.own, hS5.fresh.mono hS.mods.size, hS.mods.trans' hS5.mods (fun _ _ f => f)⟩
      go_upto_region 10 with (first | (go_at_call 99; with_reducible refine T99.mono ?_; rintro e w4 ⟨rfl, hS4⟩; have T5 := T100 hS4) | (go_at_call 100; with_reducible refine T5.mono ?_; rintro e w4b ⟨a4, k4, c4, rfl, hk4, hS4b⟩; have T6 := T36 hk4 hS4b) | (go_at_call 36; with_reducible refine T6.mono ?_; rintro e w5 ⟨a5, c5, rfl, hS5⟩))
      have hM5 : Mods Nix wr w5 := hS5.mods
      clear T5 T6 T99 T100 T36 hS4 hS4b
      have hLz : Lim (0 + hsz k) := lim_k (by omega)
      have hSu5 := hS5.own.toSv
      have hON : Own w5 5 1 none 0 0 (bv []) := own_nil w5
      go_upto_region 11 with (at_builtin; with_reducible refine wpList_app rfl (.const (.slice none 0 0)) (.tmp 65) ei22 rfl hON hSu5 rfl rfl (bv_one _) (lim_app hLz) hLz.maxLen ?_; intro ax cx w6 hA6)
      have hM6 : Mods Nix w5 w6 := hA6.mods.mono (fun i _ ⟨ad, e, _⟩ => by cases e)
      have hNx : New w5.heap.size ax := hA6.new (New.none _) (Nat.le_refl _)
      have hOx : Own w6 5 1 ax (hsz k) cx (bv (pbT k pin M 0)) := by have := hA6.own; simpa [bv] using this
      clear hA6
      have hcx := hOx.le
      obtain ⟨gx, rfl⟩ := hOx.addr (by omega)
      have hgx := hNx _ rfl
      have hgx2 : w5.heap.size ≤ gx := hgx
      have hM36 : Mods Nix W3 w6 := (hM.trans' hM5 (fun _ _ f => f)).trans' hM6 (fun _ _ f => f)
      have hu0 : ¬ In a5 gx := fun ⟨ad, e, hb⟩ => by have := hS5.own.toSv.lt ad e; omega
      have hSu := hS5.own.toSv.mods hM6 (fun _ _ f => f)
      have hz36 := hM36.size
      have hz35 := hM5.size
      have hzw := hM.size
      have hz3 := hM3.size
      clear hS5 hSu5 hON
      go_wp2_with fail
      go_loopw [15, 17] (fun u i w7 => ∃ (s : Nat) (au : Option Addr) (cu : Nat), s ≤ r - 1 ∧ i = .int .i64 ((s : Int) + 1) ∧ u = .slice au (hsz k) cu ∧ Sv w7 5 1 au (hsz k) cu (bv (pbU k pin M s)) ∧ (¬ In au gx) ∧ Own w7 5 1 (some ⟨gx, 0, none⟩) (hsz k) cx (bv (pbT k pin M s)) ∧ Mods (fun i => i = gx) w6 w7) (fun _ i _ => r - (intOf i).toNat)
      case atStart => exact ⟨0, a5, c5, Nat.zero_le _, rfl, rfl, hSu, hu0, hOx, Mods.refl _ _⟩
      case round =>
        clear hSu hu0 hOx
        obtain ⟨s, au, cu, hs, rfl, rfl, hSu, hu, hOx, hM7⟩ := hrel
        have hM37 : Mods Nix W3 wr := hM36.trans' hM7 (fun i hi e => by omega)
        by_cases h9 : s < r - 1
        · have q7 : (s : Int) + 1 < r := by omega
          have T36 : Calls Tryd.prog 36 #[.int .i64 k, .slice x n c, .slice au (hsz k) cu] wr fun e w' => ∃ a' c', e = .returned (.slice a' (hsz k) c') ∧ SumOut wr w' a' (hsz k) c' (pbU k pin M (s + 1)) :=
            f36 wr k hk x n c pin ⟨hpin.sv.mods (hM3.trans' hM37 (fun _ _ f => f)) (fun _ _ f => f), hpin.byt, hpin.lim⟩ au (hsz k) cu _ hSu (byt_pbU _ _ _ _) (lim_k (by omega))
          go_upto_region 15 with (go_at_call 36; with_reducible refine T36.mono ?_; rintro e w8 ⟨a8, c8, rfl, hS8⟩)
          have hc8 := hS8.own.le
          obtain ⟨g8, rfl⟩ := hS8.own.addr (by omega)
          have hg8 := hS8.fresh _ rfl
          have hg8' : wr.heap.size ≤ g8 := hg8
          have hgxw : gx < wr.heap.size := hOx.toSv.lt _ rfl
          have hne : ¬ g8 = gx := by omega
          have hOx8 := hOx.mods hS8.mods (fun _ _ f => f)
          have hM8 : Mods (fun i => i = gx) w6 w8 := hM7.trans' hS8.mods (fun _ _ f => f.elim)
          obtain ⟨T, hT⟩ : ∃ T, Eqn T (pbT k pin M s) := ⟨_, ⟨rfl⟩⟩
          obtain ⟨U, hU⟩ : ∃ U, Eqn U (pbU k pin M (s + 1)) := ⟨_, ⟨rfl⟩⟩
          have hS8o := hS8.own
          rw [← hT.out] at hOx8
          rw [← hU.out] at hS8o
          have hTl : Eqn T.length (hsz k) := ⟨by rw [hT.out, length_pbT hk]⟩
          have hUl : Eqn U.length (hsz k) := ⟨by rw [hU.out, length_pbU hk]⟩
          have hXl : Eqn (kx T U).length T.length := ⟨length_kx (by rw [hTl.out, hUl.out])⟩
          have hS9 : Own w8 5 1 (some ⟨g8, 0, none⟩) (hsz k) c8 (bv U) := hS8o
          clear hS8 hS8o T36 hSu hOx hu hg8 hM37
          go_wp2_with fail
          go_loopw [18] (fun i w9 => ∃ j : Nat, j ≤ hsz k ∧ i = .int .i64 j ∧ Own w9 5 1 (some ⟨gx, 0, none⟩) (hsz k) cx (bv ((kx T U).take j ++ T.drop j)) ∧ Own w9 5 1 (some ⟨g8, 0, none⟩) (hsz k) c8 (bv U) ∧ Mods (fun i => i = gx) w6 w9) (fun i _ => hsz k - (intOf i).toNat)
          case atStart => exact ⟨0, Nat.zero_le _, rfl, by simpa using hOx8, hS9, hM8⟩
          case round =>
            clear hOx8 hS9 hM8
            obtain ⟨j, hj, rfl, hOx, hS9, hM8⟩ := hrel
            by_cases hjz : j < hsz k
            · obtain ⟨v1, hv1⟩ : ∃ v1, Eqn v1 (T.getD j 0) := ⟨_, ⟨rfl⟩⟩
              obtain ⟨v2, hv2⟩ : ∃ v2, Eqn v2 (U.getD j 0) := ⟨_, ⟨rfl⟩⟩
              have d1 : wr.cell? ⟨gx, j, none⟩ = some (.int .u8 v1) := by
                rw [own_at hOx j hjz, over_at (kx T U) T j hXl.out (by rw [hTl.out]; exact hjz), hv1.out]
              have d2 : wr.cell? ⟨g8, j, none⟩ = some (.int .u8 v2) := by rw [own_at hS9 j hjz, hv2.out]
              have f1 : wr.frozen? ⟨gx, j, none⟩ = false := hOx.frozen j
              have p0 : (0 : Int) ≤ j := by omega
              have p1 : (j : Int) < hsz k := by omega
              go_wp2_with fail
              go_region
              go_wp2_with fail
              go_roundw
              case measure => simp [intOf]; omega
              case rel =>
                have hm9 := (Mods.refl (fun i => i = gx) wr).setCell (p := ⟨gx, j, none⟩) (.inl rfl) (.int .u8 (bits .xor .u8 v1 v2))
                refine ⟨j + 1, hjz, by go_num, ?_, (hS9.mods hm9 (fun i hi e => by obtain ⟨ad, e2, hb⟩ := hi; cases e2; exact hne (by rw [← e, ← hb]))).mods ((Mods.refl Nix _).drew) (fun _ _ f => f), (hM8.setCell (.inl rfl) _).drew⟩
                have h9 := own_set hOx j (bits .xor .u8 v1 v2)
                have hvx : (kx T U)[j]? = some (bits .xor .u8 v1 v2) := by
                  have h1 : j < T.length := by rw [hTl.out]; exact hjz
                  have h2 : j < U.length := by rw [hUl.out]; exact hjz
                  rw [kx, List.getElem?_zipWith, hv1.out, hv2.out]
                  simp [h1, h2, List.getD]
                rw [set_over _ T j _ hXl.out (by rw [hTl.out]; exact hjz) hvx] at h9
                exact h9.mods ((Mods.refl Nix _).drew) (fun _ _ f => f)
            · obtain rfl : j = hsz k := by omega
              rw [List.take_of_length_le (by rw [hXl.out, hTl.out]; exact Nat.le_refl _), List.drop_eq_nil_of_le (by rw [hTl.out]; exact Nat.le_refl _), List.append_nil] at hOx
              go_wp2_with fail
              go_roundw
              case measure => simp [intOf]; omega
              case rel =>
                refine ⟨s + 1, _, c8, by omega, by go_num, rfl, ?_, fun ⟨ad, e, hb⟩ => (by cases e; exact hne hb), ?_, hM8⟩
                · rw [← hU.out]; exact hS9.toSv
                · rw [pbT, ← hT.out, ← hU.out]; exact hOx
        · obtain rfl : s = r - 1 := by omega
          have q7 : ¬ ((r - 1 : Nat) : Int) + 1 < r := by omega
          have hinO : ∀ i, In a' i → ¬ i = gx := fun i ⟨ad, e, hb⟩ => by have := hO.toSv.lt ad e; omega
          have hO7 := (hO.mods (hM5.trans' hM6 (fun _ _ f => f)) (fun _ _ f => f)).mods hM7 (fun i hi => hinO i hi)
          have hLa : Lim (nn + hsz k) := ⟨by omega⟩
          have hSx := hOx.toSv
          go_wp2_with (first | (at_builtin; with_reducible refine wpList_app rfl (.tmp 93) (.tmp 94) ei22 rfl hO7 hSx rfl rfl (bv_one _) (lim_app hLa) hLa.maxLen ?_; intro a9 c9 w9 hO9))
          obtain ⟨T1, hT1⟩ : ∃ T1, Eqn T1 (t + 1) := ⟨_, ⟨rfl⟩⟩
          have h8' : T1 ≤ R := by rw [hT1.out]; exact h8
          go_roundw
          case measure => simp [intOf]; omega
          case rel =>
            have hM39 : Mods Nix W3 w9 := (hM36.trans' hM7 (fun i hi e => by omega)).trans' hO9.mods (fun i hi ⟨ad, e, hb⟩ => by have := hN ad e; omega)
            refine ⟨T1, h8', nn + hsz k, ⟨by rw [hnn.out, hT1.out, Nat.mul_add, Nat.mul_one]⟩, by rw [hT1.out]; omega, a9, c9, ⟨rfl, rfl, rfl⟩, ?_, hO9.new hN (by have := hM7.size; omega), hM39⟩
            rw [hT1.out, pbN, ← hMm.out, bv_append]
            exact hO9.own
    · obtain rfl : t = R := by omega
      have hge : N ≤ nn := by
        have h3 := hP.iff t
        rw [hnn.out]; omega
      have hge2 : ¬ nn < N := by omega
      have hcc := hO.le
      have hcap : N ≤ c' := by omega
      go_wp2_with (first | (with_reducible refine wpList_sub rfl (.tmp 96) none (some (.tmp 97)) none ei22 rfl rfl hO.toSv 0 N c' (Nat.zero_le _) hge hcap (Nat.le_refl _) (bounds_to _ _ _ hge hcc _ _) ?_; intro a9 hS9))
      go_ret
      refine ⟨a9, _, rfl, ?_, fun ad e => ?_, hM3.trans' hM (fun _ _ f => f)⟩
      · have h9 := hS9.sv
        simp only [Nat.sub_zero, Nat.mul_one, List.drop_zero, bv_take] at h9
        rw [pbk, ← hR.out]
        exact h9
      · obtain ⟨ad2, e2, e3⟩ := hS9.sub _ ⟨ad, e, rfl⟩
        have := hN ad2 e2
        have := hM3.size
        omega
end Go.Proofs.YtladijfaeieidaaDoor
