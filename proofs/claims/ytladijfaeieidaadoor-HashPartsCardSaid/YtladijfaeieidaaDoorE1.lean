/- Contracts: bytes as strings; Short; the hash that every statement of chapter 3 tells first (begun). Condition: the table of constants stands. -/
import Derived.Test.YtladijfaeieidaaDoorC14
import Derived.Laws.BytesArg
import Derived.Lib.SlBytesConst
import Derived.Deep.RegionHeld3
import Derived.Deep.RegionWith
namespace Go.Proofs.YtladijfaeieidaaDoor
open Go.RowKit

theorem conv {w : World} {a : Option Addr} {n c : Nat} {l : List Int} (h : Sv w 5 1 a n c (bv l)) : (convert 22 9 (.slice a n c)).run Tryd.prog w = .ok (.string (strOfNums l)) w := by
  have hl : l.length = n := by have := h.len; simpa [bv] using this
  cases a with
  | none =>
    have := h.nil rfl
    have := h.le
    obtain rfl : l = [] := List.eq_nil_of_length_eq_zero (by omega)
    exact run_convert_bytes_nil w 22 5 Tryd.underlying22 Tryd.underlying5 n c 9 Tryd.underlying9
  | some ad =>
    obtain ⟨hs, _⟩ := h.cells ad rfl
    obtain ⟨b, o, s⟩ := ad
    simp at hs; subst hs
    exact run_convert_bytes_arg w 22 5 Tryd.underlying22 Tryd.underlying5 b o n c l hl (fun i hi => h.cell (getElem?_bv l i (by omega))) 9 Tryd.underlying9
theorem f24 (w : World) (a : Option Addr) (n c : Nat) (l : List Int) (hs : Sv w 5 1 a n c (bv l)) (m : Nat) (M : Int) (hM : M = (m : Int)) (hm : m < 1000) :
    Calls Tryd.prog 24 #[.slice a n c, .int .i64 M] w fun e w' => e = .returned (.slice a (min n m) c) ∧ w = w' := by
  subst hM
  have hc := hs.le
  by_cases h : m < n
  · rw [Nat.min_eq_right (by omega)]
    have h1 : (m : Int) ≤ c := by omega
    have h2 : (m : Int) < n := by omega
    have h3 : ¬ c = 0 := by omega
    go_enter Tryd.func24, Tryd.ntmps24
    go_wp2_with fail
    go_ret
    exact ⟨rfl, rfl⟩
  · rw [Nat.min_eq_left (by omega)]
    have h2 : ¬ (m : Int) < n := by omega
    go_enter Tryd.func24, Tryd.ntmps24
    go_wp2_with fail
    go_ret
    exact ⟨rfl, rfl⟩
theorem sv_min {w : World} {a : Option Addr} {n c : Nat} {l : List Int} (hs : Sv w 5 1 a n c (bv l)) (m : Nat) : Sv w 5 1 a (min n m) c (bv (l.take m)) := by
  have hl : l.length = n := by have := hs.len; simpa [bv] using this
  have h := hs.front (min n m) (Nat.min_le_left _ _)
  rw [bv_take] at h
  have e : l.take (min n m) = l.take m := by
    rcases Nat.le_total n m with h | h
    · rw [Nat.min_eq_left h, List.take_of_length_le (by omega), List.take_of_length_le (by omega)]
    · rw [Nat.min_eq_right h]
  rwa [e] at h
set_option maxRecDepth 1000000 in
theorem abc4 : (hash 3 [97, 98, 99]).take 4 = [186, 120, 22, 191] := by decide +kernel
theorem lim_small {n : Nat} (h : n ≤ 140737488355328) : Lim n := ⟨h⟩
theorem sv_lit (w : World) (vs : List Value) (t n : Nat) (fz : Nat × Nat) (hn : vs.length = n) (h : n ≤ maxLen) : Sv (w.alloc (.cells vs.toArray t fz)) t 1 (some ⟨w.heap.size, 0, none⟩) n n vs :=
  { len := by simp [hn], le := Nat.le_refl _, cap := h, nil := fun e => by (cases e),
    cells := fun ad e => by
      cases e
      exact ⟨rfl, vs.toArray, t, fz, heap_alloc_new w _, fun i u hu => by simpa using hu⟩ }
theorem convk (w : World) (C : Array Value) (n c : Nat) : (convert 22 22 (.slice (some ⟨w.heap.size, 0, none⟩) n c)).run Tryd.prog (w.alloc (.cells C 5)) = .ok (.slice (some ⟨w.heap.size, 0, none⟩) n c) (w.alloc (.cells C 5 (C.size, C.size + 1))) :=
  Lib.run_convert_bytes_const w 22 5 C n c Tryd.underlying22 Tryd.underlying5
theorem lim_c {n : Nat} (h : n ≤ 1000) : Lim n := ⟨by omega⟩
/-- A slice reads as this string, as long as nothing that lies is changed. -/
structure Cv (w : World) (v : Value) (s : ByteArray) : Prop where
  out : ∀ w', Mods Nix w w' → (convert 22 9 v).run Tryd.prog w' = .ok (.string s) w'
theorem Sv.cv {w : World} {a : Option Addr} {n c : Nat} {l : List Int} (h : Sv w 5 1 a n c (bv l)) : Cv w (.slice a n c) (strOfNums l) := ⟨fun _ hM => conv (h.mods hM (fun _ _ f => f))⟩
/-- A contract for whatever has come behind w. -/
structure Behind (w : World) (p : World → Prop) : Prop where
  out : ∀ w', Mods Nix w w' → p w'
set_option maxRecDepth 100000 in
set_option maxHeartbeats 4000000 in
theorem f23 (w : World) (hg : GK w) : Calls Tryd.prog 23 #[] w fun e w' => e = .returned (.bool true) ∧ Mods Nix w w' := by
  have hk3 : Kd 3 := ⟨by omega, by omega⟩
  go_enter Tryd.func23, Tryd.ntmps23
  go_upto_region 4 with (go_at_call 31; refine (f31 _ 3 hk3).mono ?_; rintro e w1 ⟨b, rfl, hN⟩)
  have hS1 := (sv_lit w1 (bv [97]) 5 1 (1, 2) rfl (by simp only [maxLen]; omega))
  have hB1 : Byt [97] := by intro x hx; simp at hx; omega
  have hH1 : HN w.heap.size w1 b none 3 [] := ⟨hN.ho, hN.fresh, New.none _⟩
  have hbl := hN.ho.lt
  have hk1 := convk w1 #[.int .u8 97] 1 1
  have T1 := f34n w.heap.size w _ rfl (hN.mods.alloc (.cells #[.int .u8 97] 5 (1, 2))) b none 3 [] ⟨hH1.ho.mods (alloc_mods w1 _) (fun f => f) (fun _ _ f => f), hH1.fresh, hH1.freshA⟩ _ 1 1 [97] hS1 hB1 (lim_c (by simp)) (fun ⟨ad, e, hb⟩ => by cases e; simp at hb; omega) hg
  go_upto_region 5 with (go_at_call 34; refine T1.mono ?_; rintro e w2 ⟨rfl, a2, hH2, hM2, -⟩)
  clear hk1 T1 hS1
  have hS2 := (sv_lit w2 (bv [98, 99]) 5 2 (2, 3) rfl (by simp only [maxLen]; omega))
  have hB2 : Byt [98, 99] := by intro x hx; simp at hx; omega
  have hbl2 := hH2.ho.lt
  have hk2 := convk w2 #[.int .u8 98, .int .u8 99] 2 2
  have T2 := f34n w.heap.size w _ rfl (hM2.alloc (.cells #[.int .u8 98, .int .u8 99] 5 (2, 3))) b a2 3 _ ⟨hH2.ho.mods (alloc_mods w2 _) (fun f => f) (fun _ _ f => f), hH2.fresh, hH2.freshA⟩ _ 2 2 [98, 99] hS2 hB2 (lim_c (by simp)) (fun ⟨ad, e, hb⟩ => by cases e; simp at hb; omega) hg
  go_upto_region 6 with (go_at_call 34; refine T2.mono ?_; rintro e w3 ⟨rfl, a3, hH3, hM3, -⟩)
  clear hk2 T2 hS2
  have T3 : Calls Tryd.prog 32 #[.pointer (some ⟨b, 0, none⟩)] w3 fun e w' => ∃ a' c', e = .returned (.slice a' 32 c') ∧ SumOut w3 w' a' 32 c' (hash 3 ([] ++ [97] ++ [98, 99])) := f32 w3 b a3 3 _ hH3.ho (lim_c (by simp)) (hg.mods hM3 (fun f => f))
  go_upto_region 7 with (go_at_call 32; refine T3.mono ?_; rintro e w4 ⟨a4, c4, rfl, hS4⟩)
  clear T3
  have hM4 : Mods Nix w w4 := hM3.trans' hS4.mods (fun _ _ f => f)
  have hc4 := hS4.own.le
  have q1 : (4 : Int) ≤ c4 := by omega
  have q2 : ¬ c4 = 0 := by omega
  have hD : Byt [97, 98, 99] := by intro x hx; simp at hx; omega
  obtain ⟨H, hH⟩ : ∃ H, Eqn H (hash 3 [97, 98, 99]) := ⟨_, ⟨rfl⟩⟩
  have hS5 : SumOut w3 w4 a4 32 c4 H := by rw [hH.out]; exact hS4
  clear hS4
  have h4 : strOfNums (H.take 4) = ⟨#[186, 120, 22, 191]⟩ := by rw [hH.out, abc4]; rfl
  have cv4 : Cv w4 (.slice a4 4 c4) ⟨#[186, 120, 22, 191]⟩ := by
    have h9 := hS5.own.toSv.front 4 (by omega)
    rw [bv_take] at h9
    have := h9.cv
    rwa [h4] at this
  have cv32 : Cv w4 (.slice a4 32 c4) (strOfNums H) := hS5.own.toSv.cv
  have k4 := cv4.out _ ((Mods.refl Nix w4).drew)
  have k32 := cv32.out _ ((Mods.refl Nix w4).drew)
  have kk : (convert 22 22 (.slice (some ⟨w4.heap.size, 0, none⟩) 3 3)).run Tryd.prog (w4.alloc (.cells #[.int .u8 97, .int .u8 98, .int .u8 99] 5)).drew = .ok (.slice (some ⟨w4.heap.size, 0, none⟩) 3 3) (w4.alloc (.cells #[.int .u8 97, .int .u8 98, .int .u8 99] 5 (3, 4))).drew := convk w4.drew _ 3 3
  have hM4a : Mods Nix w4 (w4.alloc (.cells #[.int .u8 97, .int .u8 98, .int .u8 99] 5)).drew := ((Mods.refl Nix w4).alloc _).drew
  have hM4b : Mods Nix w4 (w4.alloc (.cells #[.int .u8 97, .int .u8 98, .int .u8 99] 5 (3, 4))).drew := ((Mods.refl Nix w4).alloc _).drew
  have hM4c : Mods Nix w4 ((w4.alloc (.cells #[.int .u8 97, .int .u8 98, .int .u8 99] 5 (3, 4))).alloc (.cells #[.slice (some ⟨w4.heap.size, 0, none⟩) 3 3] 22)).drew := (((Mods.refl Nix w4).alloc _).alloc _).drew
  have k4a := cv4.out _ hM4a
  have k32a := cv32.out _ hM4a
  have k4b := cv4.out _ hM4b
  have k32b := cv32.out _ hM4b
  have k4c := cv4.out _ hM4c
  have k32c := cv32.out _ hM4c
  have hL3 := (sv_lit w4.drew (bv [97, 98, 99]) 5 3 (3, 4) rfl (by simp only [maxLen]; omega))
  have hBs := bs_one (Mods.refl Nix _) ⟨hL3, hD, lim_c (by simp)⟩
  have T5 : Calls Tryd.prog 25 #[.int .i64 3, .slice (some ⟨w4.heap.size + 1, 0, none⟩) 1 1] ((w4.alloc (.cells #[.int .u8 97, .int .u8 98, .int .u8 99] 5 (3, 4))).alloc (.cells #[.slice (some ⟨w4.heap.size, 0, none⟩) 3 3] 22)).drew fun e w' => ∃ a' c', e = .returned (.slice a' 32 c') ∧ Mods Nix w4 w' ∧ (convert 22 9 (.slice a' 32 c')).run Tryd.prog w' = .ok (.string (strOfNums H)) w' := by
    have hBs2 : Bs ((w4.alloc (.cells #[.int .u8 97, .int .u8 98, .int .u8 99] 5 (3, 4))).alloc (.cells #[.slice (some ⟨w4.heap.size, 0, none⟩) 3 3] 22)).drew (some ⟨w4.heap.size + 1, 0, none⟩) 1 1 [[97, 98, 99]] := by
      have := hBs
      rw [World.size_alloc] at this
      exact this
    refine (f25 _ 3 hk3 _ 1 1 _ hBs2 (lim_c (by simp)) (hg.mods (hM4.trans' hM4c (fun _ _ f => f)) (fun f => f))).mono ?_
    rintro e w' ⟨a', c', rfl, hS⟩
    have hSo := hS.own.toSv
    have e9 : hash 3 [[97, 98, 99]].flatten = H := by rw [hH.out]; rfl
    rw [e9] at hSo
    exact ⟨a', c', rfl, hM4c.trans' hS.mods (fun _ _ f => f), conv hSo⟩
  have T6 : Behind w4 fun w => Calls Tryd.prog 27 #[.int .i64 1] w fun e w' => e = .returned (.int .i64 20) ∧ w = w' := ⟨fun w _ => f27 1 w⟩
  have T7 : Behind w4 fun w5 => Calls Tryd.prog 35 #[.int .i64 3, .slice none 0 0, .slice none 0 0] w5 fun e w' => ∃ a' c', e = .returned (.slice a' 32 c') ∧ Mods Nix w w' ∧ Mods Nix w4 w' := by
    refine ⟨fun w5 hM5 => ?_⟩
    have hM05 := hM4.trans' hM5 (fun _ _ f => f)
    refine (f35 w5 3 hk3 none 0 0 [] ⟨by simpa [bv] using (Own.none w5 5 1).toSv, Byt.nil, lim_c (by simp)⟩ none 0 0 [] ⟨rfl, [], (Own.none w5 22 1).toSv, fun i l h => by cases h⟩ (lim_c (by simp)) (hg.mods hM05 (fun f => f))).mono ?_
    rintro e w' ⟨a', c', rfl, hS⟩
    exact ⟨a', c', rfl, hM05.trans' hS.mods (fun _ _ f => f), hM5.trans' hS.mods (fun _ _ f => f)⟩
  clear hN hB1 hH1 hbl hH2 hM2 hB2 hbl2 hH3 hM3 hS5 h4 hL3 hBs hc4 hH hM4a hM4b hM4c hD hM4 hk3 hg
  go_region_with (first | (go_at_call 25; with_reducible refine T5.mono ?_; rintro e w5 ⟨a5, c5, rfl, hM5, k5⟩; have k4d := cv4.out _ hM5; have k32d := cv32.out _ hM5) | (go_at_call 27; with_reducible refine (T6.out _ hM5).mono ?_; rintro e w6 ⟨rfl, rfl⟩) | (go_at_call 35; with_reducible refine (T7.out _ hM5).mono ?_; rintro e w7 ⟨a7, c7, rfl, hM7, hM47⟩; have k4e := cv4.out _ hM47; have k32e := cv32.out _ hM47))
  all_goals
    go_wp2_with fail
    go_ret
    exact ⟨rfl, hM7⟩
end Go.Proofs.YtladijfaeieidaaDoor
