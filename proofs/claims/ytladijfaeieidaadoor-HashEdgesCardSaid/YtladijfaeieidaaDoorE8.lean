/- The walk of HashEdges: it answers true. Condition: the table of constants stands. -/
import Derived.Test.YtladijfaeieidaaDoorE2
import Derived.Test.YtladijfaeieidaaDoorD10
import Derived.Deep.Cut
import Derived.Deep.RegionWith
namespace Go.Proofs.YtladijfaeieidaaDoor
open Go.RowKit

/-- The message of L bytes: x, x + 1, .. -/
def edge (x : Int) (L : Nat) : List Int := (List.range L).map fun (i : Nat) => (x + (i : Int)) % 256
theorem length_edge (x : Int) (L : Nat) : (edge x L).length = L := by simp [edge]
theorem edge_at (x : Int) (L i : Nat) (h : i < L) : (edge x L)[i]? = some ((x + (i : Int)) % 256) := by simp [edge, h]
theorem byt_edge (x : Int) (L : Nat) : Byt (edge x L) := by
  intro y hy
  simp only [edge, List.mem_map] at hy
  obtain ⟨i, _, rfl⟩ := hy
  omega
theorem u8w (x : Int) : IntKind.u8.wrap x = x % 256 := by simp [IntKind.wrap, IntKind.bits, IntKind.signed]
set_option maxRecDepth 100000 in
set_option maxHeartbeats 8000000 in
theorem f7a (w : World) (hg : GK w) (k : Int) (hk : Kd k) (x : Int) (i : Int) (hi : i < 0) (hi2 : -9223372036854775808 ≤ i) :
    Calls Tryd.prog 7 #[.int .i64 k, .int .u8 x, .int .i64 i] w fun e w' => e = .returned (.bool true) ∧ Mods Nix w w' := by
  have hb := hbl_cases hk
  have hbp : 0 < hbl k := hbl_pos hk
  have hz0 : ((hbl k : Int) == 0) = false := by simp; omega
  have T23 := f23 w hg
  obtain ⟨B, hB⟩ : ∃ B, Eqn B (hbl k) := ⟨_, ⟨rfl⟩⟩
  have hb1 : 64 ≤ B := by rw [hB.out]; omega
  have hb2 : B ≤ 128 := by rw [hB.out]; omega
  have T30 : ∀ w1, Calls Tryd.prog 30 #[.int .i64 k] w1 fun e w' => e = .returned (.int .i64 B) ∧ w1 = w' := fun w1 => by rw [hB.out]; exact f30 k w1
  rw [← hB.out] at hz0
  clear hb hbp hB
  go_enter Tryd.func7, Tryd.ntmps7
  go_upto_region 7 with (first | (go_at_call 23; with_reducible refine T23.mono ?_; rintro e w1 ⟨rfl, hM1⟩) | (go_at_call 30; with_reducible refine (T30 _).mono ?_; rintro e w' ⟨rfl, rfl⟩))
  obtain ⟨K, hK⟩ : ∃ K, Eqn K (-(i + 1)) := ⟨_, ⟨rfl⟩⟩
  rw [← hK.out]
  have hK0 : 0 ≤ K := by rw [hK.out]; omega
  have hK9 : K ≤ 9223372036854775807 := by rw [hK.out]; omega
  clear hi hi2
  clear T23 T30 hz0
  go_wp2_with fail
  go_loopw [9] (fun l wr => ∃ L : Nat, B ≤ L + 20 ∧ L ≤ B + 3 ∧ l = .int .i64 L ∧ Mods Nix w wr) (fun l _ => B + 3 - (intOf l).toNat)
  case atStart => exact ⟨B - 20, by omega, by omega, by rw [show ((B - 20 : Nat) : Int) = (B : Int) - 20 from by omega], hM1⟩
  case round =>
    obtain ⟨L, hL1, hL2, rfl, hM⟩ := hrel
    by_cases hL : L ≤ B + 2
    · have hLi : (L : Int) ≤ (B : Int) + 2 := by omega
      have hBi : (B : Int) ≤ 128 := by omega
      have hLm : L ≤ maxLen := by simp only [maxLen]; omega
      have hLb : 1 * L ≤ 281474976710656 := by omega
      obtain ⟨g, hgg⟩ : ∃ g, Eqn g wr.heap.size := ⟨_, ⟨rfl⟩⟩
      obtain ⟨V0, hV0⟩ : ∃ V0, Eqn V0 wr := ⟨_, ⟨rfl⟩⟩
      go_wp2_with (first | (with_reducible refine wpList_mk rfl (.tmp 32) (.tmp 32) ei22 rfl rfl L rfl rfl rfl rfl hLb hLm ?_; intro hrow))
      clear hrow
      rw [← hgg.out]
      have hgz : w.heap.size ≤ g := by rw [hgg.out]; exact hM.size
      go_loopw [11] (fun i w9 => ∃ j : Nat, j ≤ L ∧ i = .int .i64 j ∧ RB w9 g 5 (bv ((edge x L).take j ++ List.replicate (L - j) 0)) ∧ Mods Nix w w9) (fun i _ => L - (intOf i).toNat)
      case atStart =>
        refine ⟨0, Nat.zero_le _, rfl, ?_, hM.alloc _⟩
        rw [hgg.out]
        have := RB.new wr (bv (List.replicate L 0)) 5
        simpa [bv] using this
      case round =>
        clear hM
        obtain ⟨j, hj, rfl, hR, hM⟩ := hrel
        by_cases hjL : j < L
        · have hf := hR.free j
          have hjl : ((edge x L).take j).length = j := by rw [List.length_take, length_edge, Nat.min_eq_left hj]
          have hc : wr.cell? ⟨g, j, none⟩ = some (.int .u8 0) := hR.cell (by
            rw [bv, List.map_append, List.getElem?_append_right (by rw [List.length_map, hjl]; exact Nat.le_refl _), List.length_map, hjl, Nat.sub_self, List.map_replicate, List.getElem?_replicate, if_pos (by omega)])
          have i1 : (j : Int) < L := by omega
          have ew : IntKind.u8.wrap (x + IntKind.u8.wrap j) = (x + (j : Int)) % 256 := by rw [u8w, u8w]; omega
          have ew2 : (x + (j : Int) % 256) % 256 = (x + (j : Int)) % 256 := by omega
          go_wp2_with fail
          go_roundw
          case measure => simp [intOf]; omega
          case rel =>
            refine ⟨j + 1, hjL, by go_num, ?_, hM.setCell (.inr hgz) _⟩
            have h9 := hR.set j (.int .u8 ((x + (j : Int)) % 256))
            rw [bv_set] at h9
            have e9 : ((edge x L).take j ++ List.replicate (L - j) 0).set j ((x + (j : Int)) % 256) = (edge x L).take (j + 1) ++ List.replicate (L - (j + 1)) 0 :=
              take_next (edge x L) j L _ hjL (by rw [length_edge]; exact hjL) ⟨by rw [List.getD, edge_at x L j hjL]; rfl⟩
            rw [e9] at h9
            exact h9
        · obtain rfl : j = L := by omega
          have e8 : (edge x j).take j ++ List.replicate (j - j) 0 = edge x j := by
            rw [List.take_of_length_le (by rw [length_edge]; exact Nat.le_refl _), Nat.sub_self]; simp
          rw [e8] at hR
          have hS := sv_row hR (length_edge x j) (lim_c (by omega))
          have hgr := hg.mods hM (fun f => f)
          have T31 := f31 wr k hk
          obtain ⟨q, hq⟩ : ∃ q : Nat, Eqn (q : Int) (K % ((j : Int) + 1)) := ⟨(K % ((j : Int) + 1)).toNat, ⟨by
            have := Int.emod_nonneg K (show (j : Int) + 1 ≠ 0 by omega)
            omega⟩⟩
          have hq1 := hq.out.symm
          have hq2 : K.tmod ((j : Int) + 1) = q := by rw [Int.tmod_eq_emod_of_nonneg hK0, hq.out]
          have hqj : q ≤ j := by
            have := Int.emod_lt_of_pos K (show (0 : Int) < (j : Int) + 1 by omega)
            have := hq.out
            omega
          have nix2 : ∀ {a : Option Addr}, ∀ i, In a i → ¬ Nix i := fun _ _ f => f
          have hnb : ∀ {w2 b}, NewOut wr w2 b k → ∀ {w3 : World} {a1 : Option Addr} {n1 c1 : Nat} {zs : List Value}, SubOut w3 5 1 (some ⟨g, 0, none⟩) a1 n1 c1 zs → ¬ In a1 b := by
            intro w2 b hN w3 a1 n1 c1 zs h hin
            obtain ⟨ad, e, hb⟩ := h.sub _ hin
            cases e
            have h1 := hN.fresh
            have h2 := hR.lt
            simp at hb
            omega
          have T34a : ∀ {w2 b a1}, NewOut wr w2 b k → SubOut w2 5 1 (some ⟨g, 0, none⟩) a1 (q - 0) (j - 0) (((bv (edge x j)).drop (0 * 1)).take ((q - 0) * 1)) →
              Calls Tryd.prog 34 #[.pointer (some ⟨b, 0, none⟩), .slice a1 q j] w2 fun e w' => e = .returned (.tuple #[]) ∧ ∃ a', HN wr.heap.size w' b a' k ((edge x j).take q) ∧ Mods Nix wr w' := by
            intro w2 b a1 hN h1
            have h2 := h1.sv
            simp only [Nat.sub_zero, Nat.mul_one, List.drop_zero, bv_take] at h2
            refine (f34n wr.heap.size wr w2 rfl hN.mods b none k [] ⟨hN.ho, hN.fresh, New.none _⟩ a1 q j _ h2 ((byt_edge x j).take _) (lim_c (by simp [length_edge]; omega)) (hnb hN h1) hgr).mono ?_
            rintro e w' ⟨rfl, a', h5, h6, -, -⟩
            exact ⟨rfl, a', by simpa using h5, h6⟩
          have T34b : ∀ {w2 b w3 a3 a1}, NewOut wr w2 b k → HN wr.heap.size w3 b a3 k ((edge x j).take q) → Mods Nix wr w3 → SubOut w3 5 1 (some ⟨g, 0, none⟩) a1 (j - q) (j - q) (((bv (edge x j)).drop (q * 1)).take ((j - q) * 1)) →
              Calls Tryd.prog 34 #[.pointer (some ⟨b, 0, none⟩), .slice a1 (j - q) (j - q)] w3 fun e w' => e = .returned (.tuple #[]) ∧ ∃ a', HO w' b a' k (edge x j) ∧ Mods Nix wr w' := by
            intro w2 b w3 a3 a1 hN hH hM3 h1
            have h2 := h1.sv
            simp only [Nat.mul_one, bv_drop, bv_take] at h2
            rw [List.take_of_length_le (by simp [length_edge])] at h2
            refine (f34n wr.heap.size wr w3 rfl hM3 b a3 k _ hH a1 (j - q) (j - q) _ h2 ((byt_edge x j).drop _) (lim_c (by rw [List.take_append_drop, length_edge]; omega)) (hnb hN h1) hgr).mono ?_
            rintro e w' ⟨rfl, a', h5, h6, -, -⟩
            rw [List.take_append_drop] at h5
            exact ⟨rfl, a', h5.ho, h6⟩
          have hjq : j - q ≤ j - q := Nat.le_refl _
          go_upto_region 20 with (first | (go_at_call 31; with_reducible refine T31.mono ?_; rintro e w2 ⟨b, rfl, hN⟩; have hSw := hS.mods hN.mods nix2) | (with_reducible refine wpList_sub rfl (.tmp 51) none (some (.tmp 55)) none ei22 rfl rfl hSw 0 q j (Nat.zero_le _) hqj hqj (Nat.le_refl _) (bounds_to _ _ _ hqj (Nat.le_refl _) _ _) ?_; intro a1 hS1; have T1 := T34a hN hS1) | (go_at_call 34; with_reducible refine T1.mono ?_; rintro e w3 ⟨rfl, a3, hH3, hM3⟩; have hSw3 := hS.mods hM3 nix2) | (with_reducible refine wpList_sub rfl (.tmp 59) (some (.tmp 63)) none none ei22 rfl rfl hSw3 q j j hqj (Nat.le_refl _) (Nat.le_refl _) (Nat.le_refl _) (bounds_from _ _ _ _ rfl hqj (Nat.le_refl _) _ _) ?_; intro a2 hS2; have T2 := T34b hN hH3 hM3 hS2) | (go_at_call 34; with_reducible refine T2.mono ?_; rintro e w4 ⟨rfl, a4, hH4, hM4⟩))
          have T32 : Calls Tryd.prog 32 #[.pointer (some ⟨b, 0, none⟩)] w4.drew fun e w' => ∃ a' c', e = .returned (.slice a' (hsz k) c') ∧ Mods Nix wr w' ∧ Cv w' (.slice a' (hsz k) c') (strOfNums (hash k (edge x j))) := by
            refine (f32 _ b a4 k _ (hH4.mods ((Mods.refl Nix w4).drew) (fun f => f) nix2) (lim_c (by rw [length_edge]; omega)) (hgr.mods hM4.drew (fun f => f))).mono ?_
            rintro e w' ⟨a', c', rfl, hS9⟩
            exact ⟨a', c', rfl, hM4.drew.trans' hS9.mods (fun _ _ f => f), hS9.own.toSv.cv⟩
          have T26 : Behind wr fun w1 => Calls Tryd.prog 26 #[.int .i64 k, .slice (some ⟨g, 0, none⟩) j j] w1 fun e w' => ∃ a' c', e = .returned (.slice a' (hsz k) c') ∧ Mods Nix w1 w' ∧ Mods Nix wr w' ∧ (convert 22 9 (.slice a' (hsz k) c')).run Tryd.prog w' = .ok (.string (strOfNums (hash k (edge x j)))) w' := ⟨fun w1 hm => by
            refine (f26 w1 k hk _ j j _ (hS.mods hm nix2) (lim_c (by omega)) (byt_edge x j)).mono ?_
            rintro e w' ⟨a', c', rfl, hS9⟩
            exact ⟨a', c', rfl, hS9.mods, hm.trans' hS9.mods (fun _ _ f => f), conv hS9.own.toSv⟩⟩
          clear T31 T34a T34b hnb nix2 hS hR hH4 hq1 hq2
          refine wp_region_any (by kernel_rfl) ?_
          change wpAny _ _ _ _ _ _ _ (World.drew _)
          refine wpAny_take (i := 0) (v := ?_) rfl (by kernel_rfl) (by kernel_rfl) (by kernel_rfl) (fun _ _ _ h => h) (Or.inl ⟨by rfl, ?_⟩) ?_
          rotate_left
          · intro w
            go_simp
            try with_reducible rfl
          simp only [List.getElem_toArray, List.getElem_cons_zero, Act.put, List.setIfInBounds_toArray, List.set_cons_zero, List.set_cons_succ]
          refine wpAny_take (i := 3) (v := ?_) rfl (by kernel_rfl) (by kernel_rfl) (by kernel_rfl) (fun _ _ _ h => h) (Or.inl ⟨by rfl, ?_⟩) ?_
          rotate_left
          · intro w
            go_simp
            try with_reducible rfl
          simp only [List.getElem_toArray, List.getElem_cons_succ, List.getElem_cons_zero, Act.put, List.setIfInBounds_toArray, List.set_cons_zero, List.set_cons_succ]
          refine wpAny_take (i := 4) (v := ?_) rfl (by kernel_rfl) (by kernel_rfl) (by kernel_rfl) (fun _ _ _ h => h) (Or.inl ⟨by rfl, ?_⟩) ?_
          rotate_left
          · intro w
            go_simp
            try with_reducible rfl
          simp only [List.getElem_toArray, List.getElem_cons_succ, List.getElem_cons_zero, Act.put, List.setIfInBounds_toArray, List.set_cons_zero, List.set_cons_succ]
          refine wpAny_ready (rs := [1]) (by kernel_rfl) (by simp) ?_
          refine AllReady.cons rfl (fun K hK => ?_) ?_
          · go_simp
            go_wp2_with (go_at_call 32; with_reducible refine T32.mono ?_; rintro e w5 ⟨a5, c5, rfl, hM5, cv5⟩; have k5 := cv5.out _ (Mods.refl Nix w5); have T6 := T26.out _ hM5)
            try simp only [List.getElem_toArray, List.getElem_cons_succ, List.getElem_cons_zero, Act.put, List.setIfInBounds_toArray, List.set_cons_zero, List.set_cons_succ]
            refine wpAny_ready (rs := [2, 5]) (by kernel_rfl) (by simp) ?_
            refine AllReady.cons rfl (fun K hK => ?_) ?_
            · go_simp
              refine hK _ _ ?_
              clear hK K
              try simp only [List.getElem_toArray, List.getElem_cons_succ, List.getElem_cons_zero, Act.put, List.setIfInBounds_toArray, List.set_cons_zero, List.set_cons_succ]
              refine wpAny_ready (rs := [5]) (by kernel_rfl) (by simp) ?_
              refine AllReady.cons rfl (fun K hK => ?_) ?_
              · go_simp
                go_wp2_with (go_at_call 26; with_reducible refine T6.mono ?_; rintro e w6 ⟨a6, c6, rfl, hM56, hM6, k6⟩; have k5b := cv5.out _ hM56)
                try simp only [List.getElem_toArray, List.getElem_cons_succ, List.getElem_cons_zero, Act.put, List.setIfInBounds_toArray, List.set_cons_zero, List.set_cons_succ]
                refine wpAny_ready (rs := [6]) (by kernel_rfl) (by simp) ?_
                refine AllReady.cons rfl (fun K hK => ?_) ?_
                · go_simp
                  refine hK _ _ ?_
                  clear hK K
                  try simp only [List.getElem_toArray, List.getElem_cons_succ, List.getElem_cons_zero, Act.put, List.setIfInBounds_toArray, List.set_cons_zero, List.set_cons_succ]
                  refine wpAny_take (i := 7) (v := ?_) rfl (by kernel_rfl) (by kernel_rfl) (by kernel_rfl) (fun _ _ _ h => h) (Or.inl ⟨by rfl, ?_⟩) ?_
                  rotate_left
                  · intro w
                    go_simp
                    try with_reducible rfl
                  simp only [List.getElem_toArray, List.getElem_cons_succ, List.getElem_cons_zero, Act.put, List.setIfInBounds_toArray, List.set_cons_zero, List.set_cons_succ]
                  refine wpAny_done (by kernel_rfl) ?_ _
                  go_wp2_with fail
                  go_roundw
                  case measure => simp [intOf]; omega
                  case rel => exact ⟨j + 1, by omega, by omega, by go_num, hM.trans' hM6 (fun _ _ f => f)⟩
                exact AllReady.nil
              exact AllReady.nil
            refine AllReady.cons rfl (fun K hK => ?_) ?_
            · go_simp
              go_wp2_with (go_at_call 26; with_reducible refine T6.mono ?_; rintro e w6 ⟨a6, c6, rfl, hM56, hM6, k6⟩; have k5b := cv5.out _ hM56)
              try simp only [List.getElem_toArray, List.getElem_cons_succ, List.getElem_cons_zero, Act.put, List.setIfInBounds_toArray, List.set_cons_zero, List.set_cons_succ]
              refine wpAny_ready (rs := [2, 6]) (by kernel_rfl) (by simp) ?_
              refine AllReady.cons rfl (fun K hK => ?_) ?_
              · go_simp
                refine hK _ _ ?_
                clear hK K
                try simp only [List.getElem_toArray, List.getElem_cons_succ, List.getElem_cons_zero, Act.put, List.setIfInBounds_toArray, List.set_cons_zero, List.set_cons_succ]
                refine wpAny_ready (rs := [6]) (by kernel_rfl) (by simp) ?_
                refine AllReady.cons rfl (fun K hK => ?_) ?_
                · go_simp
                  refine hK _ _ ?_
                  clear hK K
                  try simp only [List.getElem_toArray, List.getElem_cons_succ, List.getElem_cons_zero, Act.put, List.setIfInBounds_toArray, List.set_cons_zero, List.set_cons_succ]
                  refine wpAny_take (i := 7) (v := ?_) rfl (by kernel_rfl) (by kernel_rfl) (by kernel_rfl) (fun _ _ _ h => h) (Or.inl ⟨by rfl, ?_⟩) ?_
                  rotate_left
                  · intro w
                    go_simp
                    try with_reducible rfl
                  simp only [List.getElem_toArray, List.getElem_cons_succ, List.getElem_cons_zero, Act.put, List.setIfInBounds_toArray, List.set_cons_zero, List.set_cons_succ]
                  refine wpAny_done (by kernel_rfl) ?_ _
                  go_wp2_with fail
                  go_roundw
                  case measure => simp [intOf]; omega
                  case rel => exact ⟨j + 1, by omega, by omega, by go_num, hM.trans' hM6 (fun _ _ f => f)⟩
                exact AllReady.nil
              refine AllReady.cons rfl (fun K hK => ?_) ?_
              · go_simp
                refine hK _ _ ?_
                clear hK K
                try simp only [List.getElem_toArray, List.getElem_cons_succ, List.getElem_cons_zero, Act.put, List.setIfInBounds_toArray, List.set_cons_zero, List.set_cons_succ]
                refine wpAny_ready (rs := [2]) (by kernel_rfl) (by simp) ?_
                refine AllReady.cons rfl (fun K hK => ?_) ?_
                · go_simp
                  refine hK _ _ ?_
                  clear hK K
                  try simp only [List.getElem_toArray, List.getElem_cons_succ, List.getElem_cons_zero, Act.put, List.setIfInBounds_toArray, List.set_cons_zero, List.set_cons_succ]
                  refine wpAny_take (i := 7) (v := ?_) rfl (by kernel_rfl) (by kernel_rfl) (by kernel_rfl) (fun _ _ _ h => h) (Or.inl ⟨by rfl, ?_⟩) ?_
                  rotate_left
                  · intro w
                    go_simp
                    try with_reducible rfl
                  simp only [List.getElem_toArray, List.getElem_cons_succ, List.getElem_cons_zero, Act.put, List.setIfInBounds_toArray, List.set_cons_zero, List.set_cons_succ]
                  refine wpAny_done (by kernel_rfl) ?_ _
                  go_wp2_with fail
                  go_roundw
                  case measure => simp [intOf]; omega
                  case rel => exact ⟨j + 1, by omega, by omega, by go_num, hM.trans' hM6 (fun _ _ f => f)⟩
                exact AllReady.nil
              exact AllReady.nil
            exact AllReady.nil
          exact AllReady.nil
    · have hLi : ¬ (L : Int) ≤ (B : Int) + 2 := by omega
      have hBi : (B : Int) ≤ 128 := by omega
      go_wp2_with fail
      go_ret
      exact ⟨rfl, hM⟩
set_option maxRecDepth 100000 in
set_option maxHeartbeats 8000000 in
theorem f7b (w : World) (hg : GK w) (k : Int) (hk : Kd k) (x : Int) (i : Int) (hi : ¬ i < 0) (hi2 : i ≤ 9223372036854775807) :
    Calls Tryd.prog 7 #[.int .i64 k, .int .u8 x, .int .i64 i] w fun e w' => e = .returned (.bool true) ∧ Mods Nix w w' := by
  have hb := hbl_cases hk
  have hbp : 0 < hbl k := hbl_pos hk
  have hz0 : ((hbl k : Int) == 0) = false := by simp; omega
  have T23 := f23 w hg
  obtain ⟨B, hB⟩ : ∃ B, Eqn B (hbl k) := ⟨_, ⟨rfl⟩⟩
  have hb1 : 64 ≤ B := by rw [hB.out]; omega
  have hb2 : B ≤ 128 := by rw [hB.out]; omega
  have T30 : ∀ w1, Calls Tryd.prog 30 #[.int .i64 k] w1 fun e w' => e = .returned (.int .i64 B) ∧ w1 = w' := fun w1 => by rw [hB.out]; exact f30 k w1
  rw [← hB.out] at hz0
  clear hb hbp hB
  go_enter Tryd.func7, Tryd.ntmps7
  go_upto_region 7 with (first | (go_at_call 23; with_reducible refine T23.mono ?_; rintro e w1 ⟨rfl, hM1⟩) | (go_at_call 30; with_reducible refine (T30 _).mono ?_; rintro e w' ⟨rfl, rfl⟩))
  obtain ⟨K, hK⟩ : ∃ K, Eqn K i := ⟨_, ⟨rfl⟩⟩
  have hK0 : 0 ≤ K := by rw [hK.out]; omega
  have hK9 : K ≤ 9223372036854775807 := by rw [hK.out]; exact hi2
  rw [← hK.out]
  clear T23 T30 hz0
  go_wp2_with fail
  go_loopw [9] (fun l wr => ∃ L : Nat, B ≤ L + 20 ∧ L ≤ B + 3 ∧ l = .int .i64 L ∧ Mods Nix w wr) (fun l _ => B + 3 - (intOf l).toNat)
  case atStart => exact ⟨B - 20, by omega, by omega, by rw [show ((B - 20 : Nat) : Int) = (B : Int) - 20 from by omega], hM1⟩
  case round =>
    obtain ⟨L, hL1, hL2, rfl, hM⟩ := hrel
    by_cases hL : L ≤ B + 2
    · have hLi : (L : Int) ≤ (B : Int) + 2 := by omega
      have hBi : (B : Int) ≤ 128 := by omega
      have hLm : L ≤ maxLen := by simp only [maxLen]; omega
      have hLb : 1 * L ≤ 281474976710656 := by omega
      obtain ⟨g, hgg⟩ : ∃ g, Eqn g wr.heap.size := ⟨_, ⟨rfl⟩⟩
      obtain ⟨V0, hV0⟩ : ∃ V0, Eqn V0 wr := ⟨_, ⟨rfl⟩⟩
      go_wp2_with (first | (with_reducible refine wpList_mk rfl (.tmp 32) (.tmp 32) ei22 rfl rfl L rfl rfl rfl rfl hLb hLm ?_; intro hrow))
      clear hrow
      rw [← hgg.out]
      have hgz : w.heap.size ≤ g := by rw [hgg.out]; exact hM.size
      go_loopw [11] (fun i w9 => ∃ j : Nat, j ≤ L ∧ i = .int .i64 j ∧ RB w9 g 5 (bv ((edge x L).take j ++ List.replicate (L - j) 0)) ∧ Mods Nix w w9) (fun i _ => L - (intOf i).toNat)
      case atStart =>
        refine ⟨0, Nat.zero_le _, rfl, ?_, hM.alloc _⟩
        rw [hgg.out]
        have := RB.new wr (bv (List.replicate L 0)) 5
        simpa [bv] using this
      case round =>
        clear hM
        obtain ⟨j, hj, rfl, hR, hM⟩ := hrel
        by_cases hjL : j < L
        · have hf := hR.free j
          have hjl : ((edge x L).take j).length = j := by rw [List.length_take, length_edge, Nat.min_eq_left hj]
          have hc : wr.cell? ⟨g, j, none⟩ = some (.int .u8 0) := hR.cell (by
            rw [bv, List.map_append, List.getElem?_append_right (by rw [List.length_map, hjl]; exact Nat.le_refl _), List.length_map, hjl, Nat.sub_self, List.map_replicate, List.getElem?_replicate, if_pos (by omega)])
          have i1 : (j : Int) < L := by omega
          have ew : IntKind.u8.wrap (x + IntKind.u8.wrap j) = (x + (j : Int)) % 256 := by rw [u8w, u8w]; omega
          have ew2 : (x + (j : Int) % 256) % 256 = (x + (j : Int)) % 256 := by omega
          go_wp2_with fail
          go_roundw
          case measure => simp [intOf]; omega
          case rel =>
            refine ⟨j + 1, hjL, by go_num, ?_, hM.setCell (.inr hgz) _⟩
            have h9 := hR.set j (.int .u8 ((x + (j : Int)) % 256))
            rw [bv_set] at h9
            have e9 : ((edge x L).take j ++ List.replicate (L - j) 0).set j ((x + (j : Int)) % 256) = (edge x L).take (j + 1) ++ List.replicate (L - (j + 1)) 0 :=
              take_next (edge x L) j L _ hjL (by rw [length_edge]; exact hjL) ⟨by rw [List.getD, edge_at x L j hjL]; rfl⟩
            rw [e9] at h9
            exact h9
        · obtain rfl : j = L := by omega
          have e8 : (edge x j).take j ++ List.replicate (j - j) 0 = edge x j := by
            rw [List.take_of_length_le (by rw [length_edge]; exact Nat.le_refl _), Nat.sub_self]; simp
          rw [e8] at hR
          have hS := sv_row hR (length_edge x j) (lim_c (by omega))
          have hgr := hg.mods hM (fun f => f)
          have T31 := f31 wr k hk
          obtain ⟨q, hq⟩ : ∃ q : Nat, Eqn (q : Int) (K % ((j : Int) + 1)) := ⟨(K % ((j : Int) + 1)).toNat, ⟨by
            have := Int.emod_nonneg K (show (j : Int) + 1 ≠ 0 by omega)
            omega⟩⟩
          have hq1 := hq.out.symm
          have hq2 : K.tmod ((j : Int) + 1) = q := by rw [Int.tmod_eq_emod_of_nonneg hK0, hq.out]
          have hqj : q ≤ j := by
            have := Int.emod_lt_of_pos K (show (0 : Int) < (j : Int) + 1 by omega)
            have := hq.out
            omega
          have nix2 : ∀ {a : Option Addr}, ∀ i, In a i → ¬ Nix i := fun _ _ f => f
          have hnb : ∀ {w2 b}, NewOut wr w2 b k → ∀ {w3 : World} {a1 : Option Addr} {n1 c1 : Nat} {zs : List Value}, SubOut w3 5 1 (some ⟨g, 0, none⟩) a1 n1 c1 zs → ¬ In a1 b := by
            intro w2 b hN w3 a1 n1 c1 zs h hin
            obtain ⟨ad, e, hb⟩ := h.sub _ hin
            cases e
            have h1 := hN.fresh
            have h2 := hR.lt
            simp at hb
            omega
          have T34a : ∀ {w2 b a1}, NewOut wr w2 b k → SubOut w2 5 1 (some ⟨g, 0, none⟩) a1 (q - 0) (j - 0) (((bv (edge x j)).drop (0 * 1)).take ((q - 0) * 1)) →
              Calls Tryd.prog 34 #[.pointer (some ⟨b, 0, none⟩), .slice a1 q j] w2 fun e w' => e = .returned (.tuple #[]) ∧ ∃ a', HN wr.heap.size w' b a' k ((edge x j).take q) ∧ Mods Nix wr w' := by
            intro w2 b a1 hN h1
            have h2 := h1.sv
            simp only [Nat.sub_zero, Nat.mul_one, List.drop_zero, bv_take] at h2
            refine (f34n wr.heap.size wr w2 rfl hN.mods b none k [] ⟨hN.ho, hN.fresh, New.none _⟩ a1 q j _ h2 ((byt_edge x j).take _) (lim_c (by simp [length_edge]; omega)) (hnb hN h1) hgr).mono ?_
            rintro e w' ⟨rfl, a', h5, h6, -, -⟩
            exact ⟨rfl, a', by simpa using h5, h6⟩
          have T34b : ∀ {w2 b w3 a3 a1}, NewOut wr w2 b k → HN wr.heap.size w3 b a3 k ((edge x j).take q) → Mods Nix wr w3 → SubOut w3 5 1 (some ⟨g, 0, none⟩) a1 (j - q) (j - q) (((bv (edge x j)).drop (q * 1)).take ((j - q) * 1)) →
              Calls Tryd.prog 34 #[.pointer (some ⟨b, 0, none⟩), .slice a1 (j - q) (j - q)] w3 fun e w' => e = .returned (.tuple #[]) ∧ ∃ a', HO w' b a' k (edge x j) ∧ Mods Nix wr w' := by
            intro w2 b w3 a3 a1 hN hH hM3 h1
            have h2 := h1.sv
            simp only [Nat.mul_one, bv_drop, bv_take] at h2
            rw [List.take_of_length_le (by simp [length_edge])] at h2
            refine (f34n wr.heap.size wr w3 rfl hM3 b a3 k _ hH a1 (j - q) (j - q) _ h2 ((byt_edge x j).drop _) (lim_c (by rw [List.take_append_drop, length_edge]; omega)) (hnb hN h1) hgr).mono ?_
            rintro e w' ⟨rfl, a', h5, h6, -, -⟩
            rw [List.take_append_drop] at h5
            exact ⟨rfl, a', h5.ho, h6⟩
          have hjq : j - q ≤ j - q := Nat.le_refl _
          go_upto_region 20 with (first | (go_at_call 31; with_reducible refine T31.mono ?_; rintro e w2 ⟨b, rfl, hN⟩; have hSw := hS.mods hN.mods nix2) | (with_reducible refine wpList_sub rfl (.tmp 51) none (some (.tmp 55)) none ei22 rfl rfl hSw 0 q j (Nat.zero_le _) hqj hqj (Nat.le_refl _) (bounds_to _ _ _ hqj (Nat.le_refl _) _ _) ?_; intro a1 hS1; have T1 := T34a hN hS1) | (go_at_call 34; with_reducible refine T1.mono ?_; rintro e w3 ⟨rfl, a3, hH3, hM3⟩; have hSw3 := hS.mods hM3 nix2) | (with_reducible refine wpList_sub rfl (.tmp 59) (some (.tmp 63)) none none ei22 rfl rfl hSw3 q j j hqj (Nat.le_refl _) (Nat.le_refl _) (Nat.le_refl _) (bounds_from _ _ _ _ rfl hqj (Nat.le_refl _) _ _) ?_; intro a2 hS2; have T2 := T34b hN hH3 hM3 hS2) | (go_at_call 34; with_reducible refine T2.mono ?_; rintro e w4 ⟨rfl, a4, hH4, hM4⟩))
          have T32 : Calls Tryd.prog 32 #[.pointer (some ⟨b, 0, none⟩)] w4.drew fun e w' => ∃ a' c', e = .returned (.slice a' (hsz k) c') ∧ Mods Nix wr w' ∧ Cv w' (.slice a' (hsz k) c') (strOfNums (hash k (edge x j))) := by
            refine (f32 _ b a4 k _ (hH4.mods ((Mods.refl Nix w4).drew) (fun f => f) nix2) (lim_c (by rw [length_edge]; omega)) (hgr.mods hM4.drew (fun f => f))).mono ?_
            rintro e w' ⟨a', c', rfl, hS9⟩
            exact ⟨a', c', rfl, hM4.drew.trans' hS9.mods (fun _ _ f => f), hS9.own.toSv.cv⟩
          have T26 : Behind wr fun w1 => Calls Tryd.prog 26 #[.int .i64 k, .slice (some ⟨g, 0, none⟩) j j] w1 fun e w' => ∃ a' c', e = .returned (.slice a' (hsz k) c') ∧ Mods Nix w1 w' ∧ Mods Nix wr w' ∧ (convert 22 9 (.slice a' (hsz k) c')).run Tryd.prog w' = .ok (.string (strOfNums (hash k (edge x j)))) w' := ⟨fun w1 hm => by
            refine (f26 w1 k hk _ j j _ (hS.mods hm nix2) (lim_c (by omega)) (byt_edge x j)).mono ?_
            rintro e w' ⟨a', c', rfl, hS9⟩
            exact ⟨a', c', rfl, hS9.mods, hm.trans' hS9.mods (fun _ _ f => f), conv hS9.own.toSv⟩⟩
          clear T31 T34a T34b hnb nix2 hS hR hH4 hq1 hq2
          refine wp_region_any (by kernel_rfl) ?_
          change wpAny _ _ _ _ _ _ _ (World.drew _)
          refine wpAny_take (i := 0) (v := ?_) rfl (by kernel_rfl) (by kernel_rfl) (by kernel_rfl) (fun _ _ _ h => h) (Or.inl ⟨by rfl, ?_⟩) ?_
          rotate_left
          · intro w
            go_simp
            try with_reducible rfl
          simp only [List.getElem_toArray, List.getElem_cons_zero, Act.put, List.setIfInBounds_toArray, List.set_cons_zero, List.set_cons_succ]
          refine wpAny_take (i := 3) (v := ?_) rfl (by kernel_rfl) (by kernel_rfl) (by kernel_rfl) (fun _ _ _ h => h) (Or.inl ⟨by rfl, ?_⟩) ?_
          rotate_left
          · intro w
            go_simp
            try with_reducible rfl
          simp only [List.getElem_toArray, List.getElem_cons_succ, List.getElem_cons_zero, Act.put, List.setIfInBounds_toArray, List.set_cons_zero, List.set_cons_succ]
          refine wpAny_take (i := 4) (v := ?_) rfl (by kernel_rfl) (by kernel_rfl) (by kernel_rfl) (fun _ _ _ h => h) (Or.inl ⟨by rfl, ?_⟩) ?_
          rotate_left
          · intro w
            go_simp
            try with_reducible rfl
          simp only [List.getElem_toArray, List.getElem_cons_succ, List.getElem_cons_zero, Act.put, List.setIfInBounds_toArray, List.set_cons_zero, List.set_cons_succ]
          refine wpAny_ready (rs := [1]) (by kernel_rfl) (by simp) ?_
          refine AllReady.cons rfl (fun K hK => ?_) ?_
          · go_simp
            go_wp2_with (go_at_call 32; with_reducible refine T32.mono ?_; rintro e w5 ⟨a5, c5, rfl, hM5, cv5⟩; have k5 := cv5.out _ (Mods.refl Nix w5); have T6 := T26.out _ hM5)
            try simp only [List.getElem_toArray, List.getElem_cons_succ, List.getElem_cons_zero, Act.put, List.setIfInBounds_toArray, List.set_cons_zero, List.set_cons_succ]
            refine wpAny_ready (rs := [2, 5]) (by kernel_rfl) (by simp) ?_
            refine AllReady.cons rfl (fun K hK => ?_) ?_
            · go_simp
              refine hK _ _ ?_
              clear hK K
              try simp only [List.getElem_toArray, List.getElem_cons_succ, List.getElem_cons_zero, Act.put, List.setIfInBounds_toArray, List.set_cons_zero, List.set_cons_succ]
              refine wpAny_ready (rs := [5]) (by kernel_rfl) (by simp) ?_
              refine AllReady.cons rfl (fun K hK => ?_) ?_
              · go_simp
                go_wp2_with (go_at_call 26; with_reducible refine T6.mono ?_; rintro e w6 ⟨a6, c6, rfl, hM56, hM6, k6⟩; have k5b := cv5.out _ hM56)
                try simp only [List.getElem_toArray, List.getElem_cons_succ, List.getElem_cons_zero, Act.put, List.setIfInBounds_toArray, List.set_cons_zero, List.set_cons_succ]
                refine wpAny_ready (rs := [6]) (by kernel_rfl) (by simp) ?_
                refine AllReady.cons rfl (fun K hK => ?_) ?_
                · go_simp
                  refine hK _ _ ?_
                  clear hK K
                  try simp only [List.getElem_toArray, List.getElem_cons_succ, List.getElem_cons_zero, Act.put, List.setIfInBounds_toArray, List.set_cons_zero, List.set_cons_succ]
                  refine wpAny_take (i := 7) (v := ?_) rfl (by kernel_rfl) (by kernel_rfl) (by kernel_rfl) (fun _ _ _ h => h) (Or.inl ⟨by rfl, ?_⟩) ?_
                  rotate_left
                  · intro w
                    go_simp
                    try with_reducible rfl
                  simp only [List.getElem_toArray, List.getElem_cons_succ, List.getElem_cons_zero, Act.put, List.setIfInBounds_toArray, List.set_cons_zero, List.set_cons_succ]
                  refine wpAny_done (by kernel_rfl) ?_ _
                  go_wp2_with fail
                  go_roundw
                  case measure => simp [intOf]; omega
                  case rel => exact ⟨j + 1, by omega, by omega, by go_num, hM.trans' hM6 (fun _ _ f => f)⟩
                exact AllReady.nil
              exact AllReady.nil
            refine AllReady.cons rfl (fun K hK => ?_) ?_
            · go_simp
              go_wp2_with (go_at_call 26; with_reducible refine T6.mono ?_; rintro e w6 ⟨a6, c6, rfl, hM56, hM6, k6⟩; have k5b := cv5.out _ hM56)
              try simp only [List.getElem_toArray, List.getElem_cons_succ, List.getElem_cons_zero, Act.put, List.setIfInBounds_toArray, List.set_cons_zero, List.set_cons_succ]
              refine wpAny_ready (rs := [2, 6]) (by kernel_rfl) (by simp) ?_
              refine AllReady.cons rfl (fun K hK => ?_) ?_
              · go_simp
                refine hK _ _ ?_
                clear hK K
                try simp only [List.getElem_toArray, List.getElem_cons_succ, List.getElem_cons_zero, Act.put, List.setIfInBounds_toArray, List.set_cons_zero, List.set_cons_succ]
                refine wpAny_ready (rs := [6]) (by kernel_rfl) (by simp) ?_
                refine AllReady.cons rfl (fun K hK => ?_) ?_
                · go_simp
                  refine hK _ _ ?_
                  clear hK K
                  try simp only [List.getElem_toArray, List.getElem_cons_succ, List.getElem_cons_zero, Act.put, List.setIfInBounds_toArray, List.set_cons_zero, List.set_cons_succ]
                  refine wpAny_take (i := 7) (v := ?_) rfl (by kernel_rfl) (by kernel_rfl) (by kernel_rfl) (fun _ _ _ h => h) (Or.inl ⟨by rfl, ?_⟩) ?_
                  rotate_left
                  · intro w
                    go_simp
                    try with_reducible rfl
                  simp only [List.getElem_toArray, List.getElem_cons_succ, List.getElem_cons_zero, Act.put, List.setIfInBounds_toArray, List.set_cons_zero, List.set_cons_succ]
                  refine wpAny_done (by kernel_rfl) ?_ _
                  go_wp2_with fail
                  go_roundw
                  case measure => simp [intOf]; omega
                  case rel => exact ⟨j + 1, by omega, by omega, by go_num, hM.trans' hM6 (fun _ _ f => f)⟩
                exact AllReady.nil
              refine AllReady.cons rfl (fun K hK => ?_) ?_
              · go_simp
                refine hK _ _ ?_
                clear hK K
                try simp only [List.getElem_toArray, List.getElem_cons_succ, List.getElem_cons_zero, Act.put, List.setIfInBounds_toArray, List.set_cons_zero, List.set_cons_succ]
                refine wpAny_ready (rs := [2]) (by kernel_rfl) (by simp) ?_
                refine AllReady.cons rfl (fun K hK => ?_) ?_
                · go_simp
                  refine hK _ _ ?_
                  clear hK K
                  try simp only [List.getElem_toArray, List.getElem_cons_succ, List.getElem_cons_zero, Act.put, List.setIfInBounds_toArray, List.set_cons_zero, List.set_cons_succ]
                  refine wpAny_take (i := 7) (v := ?_) rfl (by kernel_rfl) (by kernel_rfl) (by kernel_rfl) (fun _ _ _ h => h) (Or.inl ⟨by rfl, ?_⟩) ?_
                  rotate_left
                  · intro w
                    go_simp
                    try with_reducible rfl
                  simp only [List.getElem_toArray, List.getElem_cons_succ, List.getElem_cons_zero, Act.put, List.setIfInBounds_toArray, List.set_cons_zero, List.set_cons_succ]
                  refine wpAny_done (by kernel_rfl) ?_ _
                  go_wp2_with fail
                  go_roundw
                  case measure => simp [intOf]; omega
                  case rel => exact ⟨j + 1, by omega, by omega, by go_num, hM.trans' hM6 (fun _ _ f => f)⟩
                exact AllReady.nil
              exact AllReady.nil
            exact AllReady.nil
          exact AllReady.nil
    · have hLi : ¬ (L : Int) ≤ (B : Int) + 2 := by omega
      have hBi : (B : Int) ≤ 128 := by omega
      go_wp2_with fail
      go_ret
      exact ⟨rfl, hM⟩
theorem f7 (w : World) (hg : GK w) (k : Int) (x : Int) (_hx : 0 ≤ x ∧ x < 256) (i : Int) (hi : -9223372036854775808 ≤ i ∧ i ≤ 9223372036854775807) :
    Calls Tryd.prog 7 #[.int .i64 k, .int .u8 x, .int .i64 i] w fun e w' => e = .returned (.bool true) ∧ Mods Nix w w' := by
  rcases kd_or k with hk | hk
  · by_cases h : i < 0
    · exact f7a w hg k hk x i h hi.1
    · exact f7b w hg k hk x i h hi.2
  · have T23 := f23 w hg
    have T30 : ∀ w1, Calls Tryd.prog 30 #[.int .i64 k] w1 fun e w' => e = .returned (.int .i64 0) ∧ w1 = w' := fun w1 => by
      have := f30 k w1
      rwa [hbl_no hk] at this
    go_enter Tryd.func7, Tryd.ntmps7
    go_wp2_with (first | (go_at_call 23; with_reducible refine T23.mono ?_; rintro e w1 ⟨rfl, hM1⟩) | (go_at_call 30; with_reducible refine (T30 _).mono ?_; rintro e w' ⟨rfl, rfl⟩))
    go_ret
    exact ⟨rfl, hM1⟩
end Go.Proofs.YtladijfaeieidaaDoor
