/- The walk of AuditAppend: it answers true. Condition: the table of constants stands. -/
import Derived.Test.YtladijfaeieidaaDoorA9
import Derived.Test.YtladijfaeieidaaDoorA10
import Derived.Deep.RegionWith
import Derived.Deep.Cut
namespace Go.Proofs.YtladijfaeieidaaDoor
open Go.RowKit

set_option maxRecDepth 100000 in
set_option maxHeartbeats 4000000 in
theorem f11 (w : World) (hg : GK w) (a : Option Addr) (n c : Nat) (es : List Ent) (h : EsIn w a n c es) :
    Calls Tryd.prog 11 #[.slice a n c] w fun e w' => e = .returned (.bool true) ∧ Mods Nix w w' := by
  have hcm := h.cap
  have hnc := h.le
  have hnm : n ≤ 9223372036854775807 := by simp only [maxLen] at hcm; omega
  have hlen := Eqn.mk h.len
  have T42 := f42 w hg
  clear hcm
  go_enter Tryd.func11, Tryd.ntmps11
  go_wp2_with (first | (go_at_call 42; with_reducible refine T42.mono ?_; rintro e w0 ⟨rfl, hM0⟩))
  clear T42
  go_loopw [4, 5, 6] (fun o j i wr => ∃ (k m : Nat) (a' : Option Addr) (n' c' : Nat) (l : List Int), k ≤ n ∧ k ≤ 12 ∧ m ≤ k ∧ i = .int .i64 k ∧ j = .int .i64 m ∧ o = .slice a' n' c' ∧ Eqn n' (52 * m) ∧ Lg l m ∧ Sv wr 5 1 a' n' c' (bv l) ∧ Mods Nix w wr) (fun _ _ i _ => 12 - (intOf i).toNat)
  case atStart => exact ⟨0, 0, none, 0, 0, [], Nat.zero_le _, Nat.zero_le _, Nat.le_refl _, rfl, rfl, rfl, ⟨rfl⟩, .nil, (own_nil _).toSv, hM0⟩
  case round =>
    obtain ⟨k, m, a', n', c', l, hk, hk8, hmk, rfl, rfl, rfl, hn', hL, hS, hM⟩ := hrel
    have hl' : Eqn l.length n' := ⟨by rw [hL.len, hn'.out]⟩
    have hn9 : n' ≤ 1000 := by rw [hn'.out]; omega
    have hgr := hg.mods hM (fun f => f)
    by_cases h1 : k < n ∧ k < 12
    · obtain ⟨h1, h2⟩ := h1
      obtain ⟨e, he⟩ : ∃ e, es[k]? = some e := ⟨_, List.getElem?_eq_getElem (by rw [hlen.out]; exact h1)⟩
      obtain ⟨g, o, rfl, hA⟩ := h.ex k e he
      have hA' := hA.mods hM
      have hAB : Behind wr fun w9 => EntAt w9 g (o + k * 5) e := ⟨fun w9 hm => hA'.mods hm⟩
      obtain ⟨d0, d1, d2, d3, d4⟩ := hA'
      have i2 : (k : Int) < 12 := by omega
      have hte := h.lim e (List.mem_of_getElem? he)
      have hm12 : (m : Int) ≤ 12 := by omega
      clear h he hA
      by_cases ok : OkE n' e.t e.f e.r e.s
      · have T43 := f43y wr hgr a' n' c' l hS hL.byt (by omega) e.q e.t e.f e.r e.s ok
        have T44 : Behind wr fun w9 => Calls Tryd.prog 44 #[.slice a' n' c', .agg #[.int .i64 e.q, .int .i64 e.t, .int .i64 e.f, .int .i64 e.r, .int .i64 e.s]] w9 fun e1 w' => ∃ a' c', e1 = .returned (.tuple #[.slice a' (n' + 52) c', .bool true]) ∧ SumOut w9 w' a' (n' + 52) c' (l ++ lineOf (headOf l) ((n' / 52 : Nat) : Int) e.t e.f e.r e.s) :=
          ⟨fun w9 hm => f44y w9 a' n' c' l (hS.mods hm (fun _ _ f => f)) hL.byt (by omega) e.q e.t e.f e.r e.s hte ok⟩
        have hL2 : Lg (l ++ lineOf (headOf l) ((n' / 52 : Nat) : Int) e.t e.f e.r e.s) (m + 1) := by
          have := Lg.snoc hL (by rw [← hn'.out]; exact ok) hte
          rw [addL, hl'.out] at this
          exact this
        obtain ⟨l2, hl2⟩ : ∃ l2, Eqn l2 (l ++ lineOf (headOf l) ((n' / 52 : Nat) : Int) e.t e.f e.r e.s) := ⟨_, ⟨rfl⟩⟩
        rw [← hl2.out] at hL2 T43 T44
        clear ok hn9 hte hS hL hl2 hgr
        go_wp2_with (first | (go_at_call 43; with_reducible refine T43.mono ?_; rintro e1 w9 ⟨a9, c9, rfl, hS9⟩; have hB9 := hAB.out _ hS9.mods; have g0 := hB9.c0; have g1 := hB9.c1; have g2 := hB9.c2; have g3 := hB9.c3; have g4 := hB9.c4; have T5 := T44.out _ hS9.mods) | (go_at_call 44; with_reducible refine T5.mono ?_; rintro e1 w8 ⟨a8, c8, rfl, hS8⟩; have q1 := hS8.step hS9.own.toSv; have k1 := conv q1; have k2 := conv hS8.own.toSv))
        go_roundw
        case measure => simp [intOf]; omega
        case rel =>
          exact ⟨k + 1, m + 1, a9, n' + 52, c9, l2, h1, h2, by omega, by go_num, by go_num, rfl, ⟨by rw [hn'.out]; omega⟩, hL2, q1, (hM.trans' hS9.mods (fun _ _ f => f)).trans' hS8.mods (fun _ _ f => f)⟩
      · have T43 := f43n wr a' n' c' (by omega) e.q e.t e.f e.r e.s ok
        have T44 := fun w9 => f44n w9 a' n' c' (by omega) e.q e.t e.f e.r e.s ok
        have kn := fun w9 => conv (own_nil w9).toSv
        clear ok hn9 hte hl' hgr
        go_wp2_with (first | (go_at_call 43; with_reducible refine T43.mono ?_; rintro e1 w9 ⟨rfl, hM9⟩; have hB9 := hAB.out _ hM9; have g0 := hB9.c0; have g1 := hB9.c1; have g2 := hB9.c2; have g3 := hB9.c3; have g4 := hB9.c4) | (go_at_call 44; with_reducible refine (T44 _).mono ?_; rintro e1 w8 ⟨rfl, hM8⟩))
        go_roundw
        case measure => simp [intOf]; omega
        case rel =>
          have hM98 := hM9.trans' hM8 (fun _ _ f => f)
          exact ⟨k + 1, m, a', n', c', l, h1, h2, by omega, by go_num, rfl, rfl, hn', hL, hS.mods hM98 (fun _ _ f => f), hM.trans' hM98 (fun _ _ f => f)⟩
    · have e1 : k = n ∨ (k = 12 ∧ k < n) := by omega
      have T45 : Calls Tryd.prog 45 #[.slice a' n' c'] wr fun e w' => e = .returned (.tuple #[.int .i64 m, .bool true]) ∧ Mods Nix wr w' := by
        refine (f45 wr hgr a' n' c' l (by omega) hL.byt hS).mono ?_
        rintro e w' ⟨m', rfl, hC, hM⟩
        obtain rfl := hC.uniq hL.cnt
        have e9 : decide (m' * 52 = n') = true := by rw [decide_eq_true_iff, hn'.out]; omega
        exact ⟨by rw [e9], hM⟩
      have T46 : ∀ w1, Calls Tryd.prog 46 #[.slice a' n' c'] w1 fun e w' => e = .returned (.int .i64 m) ∧ w1 = w' := fun w1 => f46 w1 a' n' c' ⟨by omega⟩ m ⟨by rw [hn'.out]; omega⟩
      have T47 : Behind wr fun w1 => Calls Tryd.prog 47 #[.slice a' n' c'] w1.drew fun e w' => ∃ a' c', e = .returned (.slice a' 32 c') ∧ Mods Nix wr w' ∧ Cv w' (.slice a' 32 c') (strOfNums (headOf l)) := ⟨fun w1 hm => (f47 _ a' n' c' l (hS.mods hm.drew (fun _ _ f => f)) ⟨by omega⟩).mono (by
        rintro e w' ⟨a9, c9, rfl, hS9⟩
        exact ⟨a9, c9, rfl, hm.drew.trans' hS9.mods (fun _ _ f => f), hS9.own.toSv.cv⟩)⟩
      have T48 : Behind wr fun w1 => Calls Tryd.prog 48 #[.slice a' n' c'] w1 fun e w' => ∃ a' c', e = .returned (.slice a' 32 c') ∧ Mods Nix w1 w' ∧ Mods Nix wr w' ∧ (convert 22 9 (.slice a' 32 c')).run Tryd.prog w' = .ok (.string (strOfNums (headOf l))) w' := ⟨fun w1 hm => (f48 _ a' n' c' l (hS.mods hm (fun _ _ f => f)) ⟨by omega⟩).mono (by
        rintro e w' ⟨a9, c9, rfl, hS9⟩
        exact ⟨a9, c9, rfl, hS9.mods, hm.trans' hS9.mods (fun _ _ f => f), conv hS9.own.toSv⟩)⟩
      clear h1 hS hl' hgr hn9
      rcases e1 with rfl | ⟨rfl, h1⟩
      all_goals
        go_upto_region 15 with (first | (go_at_call 45; with_reducible refine T45.mono ?_; rintro e w4 ⟨rfl, hM4⟩))
        have T5 := T47.out _ hM4
        clear T45 T47
        refine wp_region_any (by kernel_rfl) ?_
        change wpAny _ _ _ _ _ _ _ (World.drew _)
        refine wpAny_take (i := 0) (v := ?_) rfl (by kernel_rfl) (by kernel_rfl) (by kernel_rfl) (fun _ _ _ h => h) (Or.inl ⟨by rfl, ?_⟩) ?_
        rotate_left
        · intro w
          go_simp
          try with_reducible rfl
        simp only [List.getElem_toArray, List.getElem_cons_zero, Act.put, List.setIfInBounds_toArray, List.set_cons_zero, List.set_cons_succ]
        refine wpAny_take (i := 1) (v := ?_) rfl (by kernel_rfl) (by kernel_rfl) (by kernel_rfl) (fun _ _ _ h => h) (Or.inl ⟨by rfl, ?_⟩) ?_
        rotate_left
        · intro w
          go_simp
          try with_reducible rfl
        simp only [List.getElem_toArray, List.getElem_cons_succ, List.getElem_cons_zero, Act.put, List.setIfInBounds_toArray, List.set_cons_zero, List.set_cons_succ]
        refine wpAny_take (i := 2) (v := ?_) rfl (by kernel_rfl) (by kernel_rfl) (by kernel_rfl) (fun _ _ _ h => h) (Or.inl ⟨by rfl, ?_⟩) ?_
        rotate_left
        · intro w
          go_simp
          try with_reducible rfl
        simp only [List.getElem_toArray, List.getElem_cons_succ, List.getElem_cons_zero, Act.put, List.setIfInBounds_toArray, List.set_cons_zero, List.set_cons_succ]
        refine wpAny_take (i := 3) (v := ?_) rfl (by kernel_rfl) (by kernel_rfl) (by kernel_rfl) (fun _ _ _ h => h) (Or.inl ⟨by rfl, ?_⟩) ?_
        rotate_left
        · intro w
          go_simp
          try with_reducible rfl
        simp only [List.getElem_toArray, List.getElem_cons_succ, List.getElem_cons_zero, Act.put, List.setIfInBounds_toArray, List.set_cons_zero, List.set_cons_succ]
        refine wpAny_take (i := 4) (v := ?_) rfl (by kernel_rfl) (by kernel_rfl) (by kernel_rfl) (fun _ _ _ h => h) (Or.inl ⟨by rfl, ?_⟩) ?_
        rotate_left
        · intro w
          go_simp
          try with_reducible rfl
        simp only [List.getElem_toArray, List.getElem_cons_succ, List.getElem_cons_zero, Act.put, List.setIfInBounds_toArray, List.set_cons_zero, List.set_cons_succ]
        refine wpAny_take (i := 5) (v := ?_) rfl (by kernel_rfl) (by kernel_rfl) (by kernel_rfl) (fun _ _ _ h => h) (Or.inl ⟨by rfl, ?_⟩) ?_
        rotate_left
        · intro w
          go_simp
          try with_reducible rfl
        simp only [List.getElem_toArray, List.getElem_cons_succ, List.getElem_cons_zero, Act.put, List.setIfInBounds_toArray, List.set_cons_zero, List.set_cons_succ]
        refine wpAny_take (i := 6) (v := ?_) rfl (by kernel_rfl) (by kernel_rfl) (by kernel_rfl) (fun _ _ _ h => h) (Or.inl ⟨by rfl, ?_⟩) ?_
        rotate_left
        · intro w
          go_simp
          try with_reducible rfl
        simp only [List.getElem_toArray, List.getElem_cons_succ, List.getElem_cons_zero, Act.put, List.setIfInBounds_toArray, List.set_cons_zero, List.set_cons_succ]
        refine wpAny_take (i := 7) (v := ?_) rfl (by kernel_rfl) (by kernel_rfl) (by kernel_rfl) (fun _ _ _ h => h) (Or.inl ⟨by rfl, ?_⟩) ?_
        rotate_left
        · intro w
          go_simp
          try with_reducible rfl
        simp only [List.getElem_toArray, List.getElem_cons_succ, List.getElem_cons_zero, Act.put, List.setIfInBounds_toArray, List.set_cons_zero, List.set_cons_succ]
        refine wpAny_take (i := 8) (v := ?_) rfl (by kernel_rfl) (by kernel_rfl) (by kernel_rfl) (fun _ _ _ h => h) (Or.inl ⟨by rfl, ?_⟩) ?_
        rotate_left
        · intro w
          go_simp
          try with_reducible rfl
        simp only [List.getElem_toArray, List.getElem_cons_succ, List.getElem_cons_zero, Act.put, List.setIfInBounds_toArray, List.set_cons_zero, List.set_cons_succ]
        refine wpAny_take (i := 9) (v := ?_) rfl (by kernel_rfl) (by kernel_rfl) (by kernel_rfl) (fun _ _ _ h => h) (Or.inl ⟨by rfl, ?_⟩) ?_
        rotate_left
        · intro w
          go_simp
          try with_reducible rfl
        simp only [List.getElem_toArray, List.getElem_cons_succ, List.getElem_cons_zero, Act.put, List.setIfInBounds_toArray, List.set_cons_zero, List.set_cons_succ]
        refine wpAny_take (i := 10) (v := ?_) rfl (by kernel_rfl) (by kernel_rfl) (by kernel_rfl) (fun _ _ _ h => h) (Or.inl ⟨by rfl, ?_⟩) ?_
        rotate_left
        · intro w
          go_simp
          try with_reducible rfl
        simp only [List.getElem_toArray, List.getElem_cons_succ, List.getElem_cons_zero, Act.put, List.setIfInBounds_toArray, List.set_cons_zero, List.set_cons_succ]
        refine wpAny_take (i := 12) (v := ?_) rfl (by kernel_rfl) (by kernel_rfl) (by kernel_rfl) (fun _ _ _ h => h) (Or.inl ⟨by rfl, ?_⟩) ?_
        rotate_left
        · intro w
          go_simp
          try with_reducible rfl
        simp only [List.getElem_toArray, List.getElem_cons_succ, List.getElem_cons_zero, Act.put, List.setIfInBounds_toArray, List.set_cons_zero, List.set_cons_succ]
        refine wpAny_ready (rs := [11]) (by kernel_rfl) (by simp) ?_
        refine AllReady.cons rfl (fun K hK => ?_) ?_
        · go_simp
          go_wp2_with (go_at_call 46; with_reducible refine (T46 _).mono ?_; rintro e w' ⟨rfl, rfl⟩)
          try simp only [List.getElem_toArray, List.getElem_cons_succ, List.getElem_cons_zero, Act.put, List.setIfInBounds_toArray, List.set_cons_zero, List.set_cons_succ]
          refine wpAny_take (i := 13) (v := ?_) rfl (by kernel_rfl) (by kernel_rfl) (by kernel_rfl) (fun _ _ _ h => h) (Or.inl ⟨by rfl, ?_⟩) ?_
          rotate_left
          · intro w
            go_simp
            try with_reducible rfl
          simp only [List.getElem_toArray, List.getElem_cons_succ, List.getElem_cons_zero, Act.put, List.setIfInBounds_toArray, List.set_cons_zero, List.set_cons_succ]
          refine wpAny_take (i := 14) (v := ?_) rfl (by kernel_rfl) (by kernel_rfl) (by kernel_rfl) (fun _ _ _ h => h) (Or.inl ⟨by rfl, ?_⟩) ?_
          rotate_left
          · intro w
            go_simp
            try with_reducible rfl
          simp only [List.getElem_toArray, List.getElem_cons_succ, List.getElem_cons_zero, Act.put, List.setIfInBounds_toArray, List.set_cons_zero, List.set_cons_succ]
          refine wpAny_take (i := 15) (v := ?_) rfl (by kernel_rfl) (by kernel_rfl) (by kernel_rfl) (fun _ _ _ h => h) (Or.inl ⟨by rfl, ?_⟩) ?_
          rotate_left
          · intro w
            go_simp
            try with_reducible rfl
          simp only [List.getElem_toArray, List.getElem_cons_succ, List.getElem_cons_zero, Act.put, List.setIfInBounds_toArray, List.set_cons_zero, List.set_cons_succ]
          refine wpAny_take (i := 16) (v := ?_) rfl (by kernel_rfl) (by kernel_rfl) (by kernel_rfl) (fun _ _ _ h => h) (Or.inl ⟨by rfl, ?_⟩) ?_
          rotate_left
          · intro w
            go_simp
            try with_reducible rfl
          simp only [List.getElem_toArray, List.getElem_cons_succ, List.getElem_cons_zero, Act.put, List.setIfInBounds_toArray, List.set_cons_zero, List.set_cons_succ]
          refine wpAny_take (i := 19) (v := ?_) rfl (by kernel_rfl) (by kernel_rfl) (by kernel_rfl) (fun _ _ _ h => h) (Or.inl ⟨by rfl, ?_⟩) ?_
          rotate_left
          · intro w
            go_simp
            try with_reducible rfl
          simp only [List.getElem_toArray, List.getElem_cons_succ, List.getElem_cons_zero, Act.put, List.setIfInBounds_toArray, List.set_cons_zero, List.set_cons_succ]
          refine wpAny_ready (rs := [17]) (by kernel_rfl) (by simp) ?_
          refine AllReady.cons rfl (fun K hK => ?_) ?_
          · go_simp
            go_wp2_with (go_at_call 47; with_reducible refine T5.mono ?_; rintro e w5 ⟨a5, c5, rfl, hM5, cv5⟩; have k5 := cv5.out _ (Mods.refl Nix w5); have T6 := T48.out _ hM5)
            try simp only [List.getElem_toArray, List.getElem_cons_succ, List.getElem_cons_zero, Act.put, List.setIfInBounds_toArray, List.set_cons_zero, List.set_cons_succ]
            refine wpAny_ready (rs := [18, 20]) (by kernel_rfl) (by simp) ?_
            refine AllReady.cons rfl (fun K hK => ?_) ?_
            · go_simp
              refine hK _ _ ?_
              clear hK K
              try simp only [List.getElem_toArray, List.getElem_cons_succ, List.getElem_cons_zero, Act.put, List.setIfInBounds_toArray, List.set_cons_zero, List.set_cons_succ]
              refine wpAny_ready (rs := [20]) (by kernel_rfl) (by simp) ?_
              refine AllReady.cons rfl (fun K hK => ?_) ?_
              · go_simp
                go_wp2_with (go_at_call 48; with_reducible refine T6.mono ?_; rintro e w6 ⟨a6, c6, rfl, hM56, hM6, k6⟩; have k5b := cv5.out _ hM56)
                try simp only [List.getElem_toArray, List.getElem_cons_succ, List.getElem_cons_zero, Act.put, List.setIfInBounds_toArray, List.set_cons_zero, List.set_cons_succ]
                refine wpAny_ready (rs := [21]) (by kernel_rfl) (by simp) ?_
                refine AllReady.cons rfl (fun K hK => ?_) ?_
                · go_simp
                  refine hK _ _ ?_
                  clear hK K
                  try simp only [List.getElem_toArray, List.getElem_cons_succ, List.getElem_cons_zero, Act.put, List.setIfInBounds_toArray, List.set_cons_zero, List.set_cons_succ]
                  refine wpAny_take (i := 22) (v := ?_) rfl (by kernel_rfl) (by kernel_rfl) (by kernel_rfl) (fun _ _ _ h => h) (Or.inl ⟨by rfl, ?_⟩) ?_
                  rotate_left
                  · intro w
                    go_simp
                    try with_reducible rfl
                  simp only [List.getElem_toArray, List.getElem_cons_succ, List.getElem_cons_zero, Act.put, List.setIfInBounds_toArray, List.set_cons_zero, List.set_cons_succ]
                  refine wpAny_take (i := 23) (v := ?_) rfl (by kernel_rfl) (by kernel_rfl) (by kernel_rfl) (fun _ _ _ h => h) (Or.inl ⟨by rfl, ?_⟩) ?_
                  rotate_left
                  · intro w
                    go_simp
                    try with_reducible rfl
                  simp only [List.getElem_toArray, List.getElem_cons_succ, List.getElem_cons_zero, Act.put, List.setIfInBounds_toArray, List.set_cons_zero, List.set_cons_succ]
                  refine wpAny_take (i := 24) (v := ?_) rfl (by kernel_rfl) (by kernel_rfl) (by kernel_rfl) (fun _ _ _ h => h) (Or.inl ⟨by rfl, ?_⟩) ?_
                  rotate_left
                  · intro w
                    go_simp
                    try with_reducible rfl
                  simp only [List.getElem_toArray, List.getElem_cons_succ, List.getElem_cons_zero, Act.put, List.setIfInBounds_toArray, List.set_cons_zero, List.set_cons_succ]
                  refine wpAny_done (by kernel_rfl) ?_ _
                  go_wp2_with fail
                  go_ret
                  exact ⟨rfl, hM.trans' hM6 (fun _ _ f => f)⟩
                exact AllReady.nil
              exact AllReady.nil
            refine AllReady.cons rfl (fun K hK => ?_) ?_
            · go_simp
              go_wp2_with (go_at_call 48; with_reducible refine T6.mono ?_; rintro e w6 ⟨a6, c6, rfl, hM56, hM6, k6⟩; have k5b := cv5.out _ hM56)
              try simp only [List.getElem_toArray, List.getElem_cons_succ, List.getElem_cons_zero, Act.put, List.setIfInBounds_toArray, List.set_cons_zero, List.set_cons_succ]
              refine wpAny_ready (rs := [18, 21]) (by kernel_rfl) (by simp) ?_
              refine AllReady.cons rfl (fun K hK => ?_) ?_
              · go_simp
                refine hK _ _ ?_
                clear hK K
                try simp only [List.getElem_toArray, List.getElem_cons_succ, List.getElem_cons_zero, Act.put, List.setIfInBounds_toArray, List.set_cons_zero, List.set_cons_succ]
                refine wpAny_ready (rs := [21]) (by kernel_rfl) (by simp) ?_
                refine AllReady.cons rfl (fun K hK => ?_) ?_
                · go_simp
                  refine hK _ _ ?_
                  clear hK K
                  try simp only [List.getElem_toArray, List.getElem_cons_succ, List.getElem_cons_zero, Act.put, List.setIfInBounds_toArray, List.set_cons_zero, List.set_cons_succ]
                  refine wpAny_take (i := 22) (v := ?_) rfl (by kernel_rfl) (by kernel_rfl) (by kernel_rfl) (fun _ _ _ h => h) (Or.inl ⟨by rfl, ?_⟩) ?_
                  rotate_left
                  · intro w
                    go_simp
                    try with_reducible rfl
                  simp only [List.getElem_toArray, List.getElem_cons_succ, List.getElem_cons_zero, Act.put, List.setIfInBounds_toArray, List.set_cons_zero, List.set_cons_succ]
                  refine wpAny_take (i := 23) (v := ?_) rfl (by kernel_rfl) (by kernel_rfl) (by kernel_rfl) (fun _ _ _ h => h) (Or.inl ⟨by rfl, ?_⟩) ?_
                  rotate_left
                  · intro w
                    go_simp
                    try with_reducible rfl
                  simp only [List.getElem_toArray, List.getElem_cons_succ, List.getElem_cons_zero, Act.put, List.setIfInBounds_toArray, List.set_cons_zero, List.set_cons_succ]
                  refine wpAny_take (i := 24) (v := ?_) rfl (by kernel_rfl) (by kernel_rfl) (by kernel_rfl) (fun _ _ _ h => h) (Or.inl ⟨by rfl, ?_⟩) ?_
                  rotate_left
                  · intro w
                    go_simp
                    try with_reducible rfl
                  simp only [List.getElem_toArray, List.getElem_cons_succ, List.getElem_cons_zero, Act.put, List.setIfInBounds_toArray, List.set_cons_zero, List.set_cons_succ]
                  refine wpAny_done (by kernel_rfl) ?_ _
                  go_wp2_with fail
                  go_ret
                  exact ⟨rfl, hM.trans' hM6 (fun _ _ f => f)⟩
                exact AllReady.nil
              refine AllReady.cons rfl (fun K hK => ?_) ?_
              · go_simp
                refine hK _ _ ?_
                clear hK K
                try simp only [List.getElem_toArray, List.getElem_cons_succ, List.getElem_cons_zero, Act.put, List.setIfInBounds_toArray, List.set_cons_zero, List.set_cons_succ]
                refine wpAny_ready (rs := [18]) (by kernel_rfl) (by simp) ?_
                refine AllReady.cons rfl (fun K hK => ?_) ?_
                · go_simp
                  refine hK _ _ ?_
                  clear hK K
                  try simp only [List.getElem_toArray, List.getElem_cons_succ, List.getElem_cons_zero, Act.put, List.setIfInBounds_toArray, List.set_cons_zero, List.set_cons_succ]
                  refine wpAny_take (i := 22) (v := ?_) rfl (by kernel_rfl) (by kernel_rfl) (by kernel_rfl) (fun _ _ _ h => h) (Or.inl ⟨by rfl, ?_⟩) ?_
                  rotate_left
                  · intro w
                    go_simp
                    try with_reducible rfl
                  simp only [List.getElem_toArray, List.getElem_cons_succ, List.getElem_cons_zero, Act.put, List.setIfInBounds_toArray, List.set_cons_zero, List.set_cons_succ]
                  refine wpAny_take (i := 23) (v := ?_) rfl (by kernel_rfl) (by kernel_rfl) (by kernel_rfl) (fun _ _ _ h => h) (Or.inl ⟨by rfl, ?_⟩) ?_
                  rotate_left
                  · intro w
                    go_simp
                    try with_reducible rfl
                  simp only [List.getElem_toArray, List.getElem_cons_succ, List.getElem_cons_zero, Act.put, List.setIfInBounds_toArray, List.set_cons_zero, List.set_cons_succ]
                  refine wpAny_take (i := 24) (v := ?_) rfl (by kernel_rfl) (by kernel_rfl) (by kernel_rfl) (fun _ _ _ h => h) (Or.inl ⟨by rfl, ?_⟩) ?_
                  rotate_left
                  · intro w
                    go_simp
                    try with_reducible rfl
                  simp only [List.getElem_toArray, List.getElem_cons_succ, List.getElem_cons_zero, Act.put, List.setIfInBounds_toArray, List.set_cons_zero, List.set_cons_succ]
                  refine wpAny_done (by kernel_rfl) ?_ _
                  go_wp2_with fail
                  go_ret
                  exact ⟨rfl, hM.trans' hM6 (fun _ _ f => f)⟩
                exact AllReady.nil
              exact AllReady.nil
            exact AllReady.nil
          exact AllReady.nil
        exact AllReady.nil
end Go.Proofs.YtladijfaeieidaaDoor
