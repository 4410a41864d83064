/- Contracts: the audit's right, Append (of both), lines, Check. Conditions: lengths that an append may come to. -/
import Derived.Test.YtladijfaeieidaaDoorA1
import Derived.Test.YtladijfaeieidaaDoorA2

namespace Go.Proofs.YtladijfaeieidaaDoor
open Go.RowKit

theorem field52_1 (w : World) (a b c d e : Int) : (Instr.field 52 (.agg #[.int .i64 a, .int .i64 b, .int .i64 c, .int .i64 d, .int .i64 e]) 1).run Tryd.prog w = .ok (.int .i64 b) w := by kernel_rfl
/-- The time that a line tells. -/
def timeOf (l : List Int) : Int := IntKind.i64.wrap (be ((l.drop 4).take 8))
/-- Is a line as it must be? -/
def rightB (l r : List Int) : Bool := decide (l = r) && decide (0 ≤ timeOf l)
set_option maxRecDepth 100000 in
theorem f104 (w : World) (g o n c : Nat) (l : List Int) (hs : Sv w 5 1 (some ⟨g, o, none⟩) n c (bv l)) (hn : 20 ≤ n) (hB : Byt l) (b : Option Addr) (m d : Nat) (r : List Int) (hr : Sv w 5 1 b m d (bv r)) (hR : Byt r) :
    Calls Tryd.prog 104 #[.slice (some ⟨g, o, none⟩) n c, .slice b m d] w fun e w' => e = .returned (.bool (rightB l r)) ∧ Mods Nix w w' := by
  have T115 := f115 w _ n c l hs hB b m d r hr hR
  have T106 := f106 w g o n c l hs hn hB
  have hE : ∃ v1 v3 v4 v5 t, Eqn t (timeOf l) ∧ entOf l = .agg #[.int .i64 v1, .int .i64 t, .int .i64 v3, .int .i64 v4, .int .i64 v5] := ⟨_, _, _, _, _, ⟨rfl⟩, rfl⟩
  obtain ⟨v1, v3, v4, v5, t, ht, hE⟩ := hE
  rw [hE] at T106
  clear hE
  unfold rightB
  rw [← ht.out]
  by_cases h : l = r
  · have e1 : decide (l = r) = true := by simpa using h
    rw [e1]
    rw [e1] at T115
    clear e1 h hs hr
    have kf := fun w => field52_1 w v1 t v3 v4 v5
    go_enter Tryd.func104, Tryd.ntmps104
    go_wp2_with (first | (go_at_call 115; with_reducible refine T115.mono ?_; rintro e w' ⟨rfl, rfl⟩) | (go_at_call 106; with_reducible refine T106.mono ?_; rintro e w9 ⟨rfl, hM9⟩))
    go_ret
    exact ⟨by simp, hM9⟩
  · have e1 : decide (l = r) = false := by simpa using h
    rw [e1]
    rw [e1] at T115
    clear e1 h hs hr
    go_enter Tryd.func104, Tryd.ntmps104
    go_wp2_with (first | (go_at_call 115; with_reducible refine T115.mono ?_; rintro e w' ⟨rfl, rfl⟩))
    go_ret
    exact ⟨rfl, Mods.refl _ _⟩
/-- May a line be added? -/
structure OkE (n : Nat) (t f r s : Int) : Prop where
  n52 : n % 52 = 0
  t0 : ¬ t < 0
  f0 : ¬ f < 0
  f1 : ¬ 65535 < f
  s0 : ¬ s < 0
  s1 : ¬ 65535 < s
  r0 : ¬ r < 0
  r1 : ¬ 4294967295 < r
set_option maxRecDepth 100000 in
set_option maxHeartbeats 2000000 in
theorem f43y (w : World) (hg : GK w) (a : Option Addr) (n c : Nat) (l : List Int) (hs : Sv w 5 1 a n c (bv l)) (hB : Byt l) (hn : n ≤ 100000) (q0 t f r s : Int) (ok : OkE n t f r s) :
    Calls Tryd.prog 43 #[.slice a n c, .agg #[.int .i64 q0, .int .i64 t, .int .i64 f, .int .i64 r, .int .i64 s]] w fun e w' => ∃ a' c', e = .returned (.tuple #[.slice a' (n + 52) c', .bool true]) ∧ SumOut w w' a' (n + 52) c' (l ++ lineOf (headOf l) ((n / 52 : Nat) : Int) t f r s) := by
  have h1 : (((n : Int) % 52) == 0) = true := by have := ok.n52; simp; omega
  have h1' : (((n : Int) % 52) != 0) = false := by have := ok.n52; simp; omega
  obtain ⟨-, h2, h3, h4, h5, h6, h7, h8⟩ := ok
  have hcap := hs.le
  obtain ⟨q, hq⟩ : ∃ q, Eqn q (n / 52) := ⟨_, ⟨rfl⟩⟩
  rw [← hq.out]
  obtain ⟨P0, hP0⟩ : ∃ P0, Eqn P0 w.heap.size := ⟨_, ⟨rfl⟩⟩
  obtain ⟨W1, hW1⟩ : ∃ W1, Eqn W1 (w.alloc (.cells #[.int .i64 q0, .int .i64 t, .int .i64 f, .int .i64 r, .int .i64 s] 52)) := ⟨_, ⟨rfl⟩⟩
  have hR0 : RB W1 P0 52 (ents q0 t f r s) := by
    rw [hW1.out, hP0.out]
    exact RB.new w (ents q0 t f r s) 52
  have hM1 : Mods Nix w W1.drew := by rw [hW1.out]; exact (alloc_mods _ _).drew
  have hRd := hR0.drew
  have e0 : W1.drew.cell? ⟨P0, 0, none⟩ = some (.int .i64 q0) := hRd.cell rfl
  have e1 : W1.drew.cell? ⟨P0, 1, none⟩ = some (.int .i64 t) := hRd.cell rfl
  have e2 : W1.drew.cell? ⟨P0, 2, none⟩ = some (.int .i64 f) := hRd.cell rfl
  have e3 : W1.drew.cell? ⟨P0, 3, none⟩ = some (.int .i64 r) := hRd.cell rfl
  have e4 : W1.drew.cell? ⟨P0, 4, none⟩ = some (.int .i64 s) := hRd.cell rfl
  have E1 : EC W1 P0 q0 t f r s := ec hR0
  have d1 := E1.c1
  have d2 := E1.c2
  have d3 := E1.c3
  have d4 := E1.c4
  go_enter Tryd.func43, Tryd.ntmps43
  go_upto_region 1 with fail
  rw [← hW1.out, ← hP0.out]
  go_wp2_with fail
  clear d1 d2 d3 d4 E1
  have hs1 := hs.mods hM1 (fun _ _ f => f)
  have hLn : Lim (n + 300) := ⟨by omega⟩
  have T93 := f93 hs1 (hLn.of (by omega))
  have T46 : ∀ w1, Calls Tryd.prog 46 #[.slice a n c] w1 fun e w' => e = .returned (.int .i64 q) ∧ w1 = w' := fun w1 => f46 w1 a n c (hLn.of (by omega)) q hq
  have T47 : Behind W1.drew fun w2 => Calls Tryd.prog 47 #[.slice a n c] w2 fun e w' => ∃ a' c', e = .returned (.slice a' 32 c') ∧ SumOut w2 w' a' 32 c' (headOf l) := ⟨fun w2 hM => f47 w2 a n c l (hs1.mods hM (fun _ _ f => f)) hLn⟩
  have T101 : ∀ {w2 w3 : World} {a3 : Option Addr} {c3 : Nat}, Mods Nix W1.drew w2 → SumOut w2 w3 a3 32 c3 (headOf l) → Calls Tryd.prog 101 #[.slice a3 32 c3, .int .i64 q, .agg #[.int .i64 q0, .int .i64 t, .int .i64 f, .int .i64 r, .int .i64 s]] w3 fun e w' => ∃ a' c', e = .returned (.slice a' 52 c') ∧ SumOut w3 w' a' 52 c' (lineOf (headOf l) q t f r s) := by
    intro w2 w3 a3 c3 hM hS
    exact f101 w3 a3 32 c3 _ hS.own.toSv (byt_headOf hB) (by omega) (hg.mods ((hM1.trans' hM (fun _ _ f => f)).trans' hS.mods (fun _ _ f => f)) (fun f => f)) q q0 t f r s
  have hL52 : Lim (n + 52) := hLn.of (by omega)
  have hPB : P0 < W1.drew.heap.size := hRd.lt
  have TA : ∀ {w2 w3 w4 : World} {a2 a3 a4 : Option Addr} {c2 c3 c4 : Nat}, Own w2 5 1 a2 n c2 (bv l) → SumOut w2 w3 a3 32 c3 (headOf l) → SumOut w3 w4 a4 52 c4 (lineOf (headOf l) q t f r s) → Own w4 5 1 a2 n c2 (bv l) ∧ Sv w4 5 1 a4 52 c4 (bv (lineOf (headOf l) q t f r s)) :=
    fun h2 h3 h4 => ⟨(h2.mods h3.mods (fun _ _ f => f)).mods h4.mods (fun _ _ f => f), h4.own.toSv⟩
  have nix : ∀ {i}, ¬ Nix i := fun f => f
  have hnP : ∀ {a2 : Option Addr}, New W1.drew.heap.size a2 → ¬ In a2 P0 := fun hN ⟨ad, e, hb⟩ => by have := hN ad e; omega
  clear h1 h1' h2 h3 h4 h5 h6 h7 h8 hcap hs hs1
  go_region_held3 (fun w' => w'.cell? ⟨P0, 0, none⟩ = some (.int .i64 q0) ∧ w'.cell? ⟨P0, 1, none⟩ = some (.int .i64 t) ∧ w'.cell? ⟨P0, 2, none⟩ = some (.int .i64 f) ∧ w'.cell? ⟨P0, 3, none⟩ = some (.int .i64 r) ∧ w'.cell? ⟨P0, 4, none⟩ = some (.int .i64 s)) (first | (refine ⟨?_, ?_, ?_, ?_, ?_⟩ <;> assumption)) (first | (go_at_call 93; with_reducible refine T93.mono ?_; rintro e w2 ⟨a2, c2, rfl, hO2, hN2, hM2, hnil2⟩; have b0 := hM2.cell e0 nix; have b1 := hM2.cell e1 nix; have b2 := hM2.cell e2 nix; have b3 := hM2.cell e3 nix; have b4 := hM2.cell e4 nix; have T5 := T47.out _ hM2) | (go_at_call 47; with_reducible refine T5.mono ?_; rintro e w3 ⟨a3, c3, rfl, hS3⟩; have g0 := hS3.cell b0; have g1 := hS3.cell b1; have g2 := hS3.cell b2; have g3 := hS3.cell b3; have g4 := hS3.cell b4; have T6 := T101 hM2 hS3) | (go_at_call 46; with_reducible refine (T46 _).mono ?_; rintro e w' ⟨rfl, rfl⟩) | (go_at_call 101; with_reducible refine T6.mono ?_; rintro e w4 ⟨a4, c4, rfl, hS4⟩; have k0 := hS4.cell g0; have k1 := hS4.cell g1; have k2 := hS4.cell g2; have k3 := hS4.cell g3; have k4 := hS4.cell g4; have A1 := TA hO2 hS3 hS4) | (refine step_app rfl (.tmp 46) (.tmp 52) ei22 rfl A1.1 A1.2 rfl rfl (bv_one _) (lim_app hL52) hL52.maxLen ?_; intro a5 c5 w5 hO5; have m0 := hO5.mods.cell k0 (hnP hN2); have m1 := hO5.mods.cell k1 (hnP hN2); have m2 := hO5.mods.cell k2 (hnP hN2); have m3 := hO5.mods.cell k3 (hnP hN2); have m4 := hO5.mods.cell k4 (hnP hN2)))
  simp only [Exit.then]
  go_at_K
  clear e0 e1 e2 e3 e4 b0 b1 b2 b3 b4 g0 g1 g2 g3 g4 k0 k1 k2 k3 k4 m0 m1 m2 m3 m4 T93 T46 T47 T101 T5 T6 TA
  go_wp2_with fail
  go_ret2
  have hM4 : Mods Nix w w4 := ((hM1.trans' hM2 (fun _ _ f => f)).trans' hS3.mods (fun _ _ f => f)).trans' hS4.mods (fun _ _ f => f)
  have hN0 : New w.heap.size a2 := hN2.mono hM1.size
  refine ⟨a5, c5, rfl, ?_, hO5.new hN0 hM4.size, hM4.trans' hO5.mods (fun i hi ⟨ad, e, hb⟩ => by have := hN0 ad e; omega)⟩
  rw [bv_append]
  exact hO5.own
end Go.Proofs.YtladijfaeieidaaDoor
