/- Contracts: the audit's Append refuses (the program's, the reference's); the reference's Append. Conditions: lengths that an append may come to. -/
import Derived.Test.YtladijfaeieidaaDoorA3
namespace Go.Proofs.YtladijfaeieidaaDoor
open Go.RowKit

set_option maxRecDepth 100000 in
theorem f43n0 (w : World) (a : Option Addr) (n c : Nat) (hn : n ≤ 100000) (q0 t f r s : Int) (h1 : (((n : Int) % 52) != 0) = true) :
    Calls Tryd.prog 43 #[.slice a n c, .agg #[.int .i64 q0, .int .i64 t, .int .i64 f, .int .i64 r, .int .i64 s]] w fun e w' => e = .returned (.tuple #[.slice none 0 0, .bool false]) ∧ Mods Nix w w' := by
  obtain ⟨P0, hP0⟩ : ∃ P0, Eqn P0 w.heap.size := ⟨_, ⟨rfl⟩⟩
  obtain ⟨W1, hW1⟩ : ∃ W1, Eqn W1 (w.alloc (.cells #[.int .i64 q0, .int .i64 t, .int .i64 f, .int .i64 r, .int .i64 s] 52)) := ⟨_, ⟨rfl⟩⟩
  have hR0 : RB W1 P0 52 (ents q0 t f r s) := by
    rw [hW1.out, hP0.out]
    exact RB.new w (ents q0 t f r s) 52
  have hM1 : Mods Nix w W1 := by rw [hW1.out]; exact alloc_mods _ _
  have E1 : EC W1 P0 q0 t f r s := ec hR0
  have d1 := E1.c1
  have d2 := E1.c2
  have d3 := E1.c3
  have d4 := E1.c4
  clear E1 hR0
  go_enter Tryd.func43, Tryd.ntmps43
  go_upto_region 1 with fail
  rw [← hW1.out, ← hP0.out]
  go_wp2_with fail
  go_ret2
  exact ⟨rfl, hM1⟩
set_option maxRecDepth 100000 in
theorem f43n1 (w : World) (a : Option Addr) (n c : Nat) (hn : n ≤ 100000) (q0 t f r s : Int) (h1 : (((n : Int) % 52) != 0) = false) (k1 : t < 0) :
    Calls Tryd.prog 43 #[.slice a n c, .agg #[.int .i64 q0, .int .i64 t, .int .i64 f, .int .i64 r, .int .i64 s]] w fun e w' => e = .returned (.tuple #[.slice none 0 0, .bool false]) ∧ Mods Nix w w' := by
  obtain ⟨P0, hP0⟩ : ∃ P0, Eqn P0 w.heap.size := ⟨_, ⟨rfl⟩⟩
  obtain ⟨W1, hW1⟩ : ∃ W1, Eqn W1 (w.alloc (.cells #[.int .i64 q0, .int .i64 t, .int .i64 f, .int .i64 r, .int .i64 s] 52)) := ⟨_, ⟨rfl⟩⟩
  have hR0 : RB W1 P0 52 (ents q0 t f r s) := by
    rw [hW1.out, hP0.out]
    exact RB.new w (ents q0 t f r s) 52
  have hM1 : Mods Nix w W1 := by rw [hW1.out]; exact alloc_mods _ _
  have E1 : EC W1 P0 q0 t f r s := ec hR0
  have d1 := E1.c1
  have d2 := E1.c2
  have d3 := E1.c3
  have d4 := E1.c4
  clear E1 hR0
  go_enter Tryd.func43, Tryd.ntmps43
  go_upto_region 1 with fail
  rw [← hW1.out, ← hP0.out]
  go_wp2_with fail
  go_ret2
  exact ⟨rfl, hM1⟩
set_option maxRecDepth 100000 in
theorem f43n2 (w : World) (a : Option Addr) (n c : Nat) (hn : n ≤ 100000) (q0 t f r s : Int) (h1 : (((n : Int) % 52) != 0) = false) (k1 : ¬ t < 0) (k2 : f < 0) :
    Calls Tryd.prog 43 #[.slice a n c, .agg #[.int .i64 q0, .int .i64 t, .int .i64 f, .int .i64 r, .int .i64 s]] w fun e w' => e = .returned (.tuple #[.slice none 0 0, .bool false]) ∧ Mods Nix w w' := by
  obtain ⟨P0, hP0⟩ : ∃ P0, Eqn P0 w.heap.size := ⟨_, ⟨rfl⟩⟩
  obtain ⟨W1, hW1⟩ : ∃ W1, Eqn W1 (w.alloc (.cells #[.int .i64 q0, .int .i64 t, .int .i64 f, .int .i64 r, .int .i64 s] 52)) := ⟨_, ⟨rfl⟩⟩
  have hR0 : RB W1 P0 52 (ents q0 t f r s) := by
    rw [hW1.out, hP0.out]
    exact RB.new w (ents q0 t f r s) 52
  have hM1 : Mods Nix w W1 := by rw [hW1.out]; exact alloc_mods _ _
  have E1 : EC W1 P0 q0 t f r s := ec hR0
  have d1 := E1.c1
  have d2 := E1.c2
  have d3 := E1.c3
  have d4 := E1.c4
  clear E1 hR0
  go_enter Tryd.func43, Tryd.ntmps43
  go_upto_region 1 with fail
  rw [← hW1.out, ← hP0.out]
  go_wp2_with fail
  go_ret2
  exact ⟨rfl, hM1⟩
set_option maxRecDepth 100000 in
theorem f43n3 (w : World) (a : Option Addr) (n c : Nat) (hn : n ≤ 100000) (q0 t f r s : Int) (h1 : (((n : Int) % 52) != 0) = false) (k1 : ¬ t < 0) (k2 : ¬ f < 0) (k3 : 65535 < f) :
    Calls Tryd.prog 43 #[.slice a n c, .agg #[.int .i64 q0, .int .i64 t, .int .i64 f, .int .i64 r, .int .i64 s]] w fun e w' => e = .returned (.tuple #[.slice none 0 0, .bool false]) ∧ Mods Nix w w' := by
  obtain ⟨P0, hP0⟩ : ∃ P0, Eqn P0 w.heap.size := ⟨_, ⟨rfl⟩⟩
  obtain ⟨W1, hW1⟩ : ∃ W1, Eqn W1 (w.alloc (.cells #[.int .i64 q0, .int .i64 t, .int .i64 f, .int .i64 r, .int .i64 s] 52)) := ⟨_, ⟨rfl⟩⟩
  have hR0 : RB W1 P0 52 (ents q0 t f r s) := by
    rw [hW1.out, hP0.out]
    exact RB.new w (ents q0 t f r s) 52
  have hM1 : Mods Nix w W1 := by rw [hW1.out]; exact alloc_mods _ _
  have E1 : EC W1 P0 q0 t f r s := ec hR0
  have d1 := E1.c1
  have d2 := E1.c2
  have d3 := E1.c3
  have d4 := E1.c4
  clear E1 hR0
  go_enter Tryd.func43, Tryd.ntmps43
  go_upto_region 1 with fail
  rw [← hW1.out, ← hP0.out]
  go_wp2_with fail
  go_ret2
  exact ⟨rfl, hM1⟩
set_option maxRecDepth 100000 in
theorem f43n4 (w : World) (a : Option Addr) (n c : Nat) (hn : n ≤ 100000) (q0 t f r s : Int) (h1 : (((n : Int) % 52) != 0) = false) (k1 : ¬ t < 0) (k2 : ¬ f < 0) (k3 : ¬ 65535 < f) (k4 : s < 0) :
    Calls Tryd.prog 43 #[.slice a n c, .agg #[.int .i64 q0, .int .i64 t, .int .i64 f, .int .i64 r, .int .i64 s]] w fun e w' => e = .returned (.tuple #[.slice none 0 0, .bool false]) ∧ Mods Nix w w' := by
  obtain ⟨P0, hP0⟩ : ∃ P0, Eqn P0 w.heap.size := ⟨_, ⟨rfl⟩⟩
  obtain ⟨W1, hW1⟩ : ∃ W1, Eqn W1 (w.alloc (.cells #[.int .i64 q0, .int .i64 t, .int .i64 f, .int .i64 r, .int .i64 s] 52)) := ⟨_, ⟨rfl⟩⟩
  have hR0 : RB W1 P0 52 (ents q0 t f r s) := by
    rw [hW1.out, hP0.out]
    exact RB.new w (ents q0 t f r s) 52
  have hM1 : Mods Nix w W1 := by rw [hW1.out]; exact alloc_mods _ _
  have E1 : EC W1 P0 q0 t f r s := ec hR0
  have d1 := E1.c1
  have d2 := E1.c2
  have d3 := E1.c3
  have d4 := E1.c4
  clear E1 hR0
  go_enter Tryd.func43, Tryd.ntmps43
  go_upto_region 1 with fail
  rw [← hW1.out, ← hP0.out]
  go_wp2_with fail
  go_ret2
  exact ⟨rfl, hM1⟩
set_option maxRecDepth 100000 in
theorem f43n5 (w : World) (a : Option Addr) (n c : Nat) (hn : n ≤ 100000) (q0 t f r s : Int) (h1 : (((n : Int) % 52) != 0) = false) (k1 : ¬ t < 0) (k2 : ¬ f < 0) (k3 : ¬ 65535 < f) (k4 : ¬ s < 0) (k5 : 65535 < s) :
    Calls Tryd.prog 43 #[.slice a n c, .agg #[.int .i64 q0, .int .i64 t, .int .i64 f, .int .i64 r, .int .i64 s]] w fun e w' => e = .returned (.tuple #[.slice none 0 0, .bool false]) ∧ Mods Nix w w' := by
  obtain ⟨P0, hP0⟩ : ∃ P0, Eqn P0 w.heap.size := ⟨_, ⟨rfl⟩⟩
  obtain ⟨W1, hW1⟩ : ∃ W1, Eqn W1 (w.alloc (.cells #[.int .i64 q0, .int .i64 t, .int .i64 f, .int .i64 r, .int .i64 s] 52)) := ⟨_, ⟨rfl⟩⟩
  have hR0 : RB W1 P0 52 (ents q0 t f r s) := by
    rw [hW1.out, hP0.out]
    exact RB.new w (ents q0 t f r s) 52
  have hM1 : Mods Nix w W1 := by rw [hW1.out]; exact alloc_mods _ _
  have E1 : EC W1 P0 q0 t f r s := ec hR0
  have d1 := E1.c1
  have d2 := E1.c2
  have d3 := E1.c3
  have d4 := E1.c4
  clear E1 hR0
  go_enter Tryd.func43, Tryd.ntmps43
  go_upto_region 1 with fail
  rw [← hW1.out, ← hP0.out]
  go_wp2_with fail
  go_ret2
  exact ⟨rfl, hM1⟩
set_option maxRecDepth 100000 in
theorem f43n6 (w : World) (a : Option Addr) (n c : Nat) (hn : n ≤ 100000) (q0 t f r s : Int) (h1 : (((n : Int) % 52) != 0) = false) (k1 : ¬ t < 0) (k2 : ¬ f < 0) (k3 : ¬ 65535 < f) (k4 : ¬ s < 0) (k5 : ¬ 65535 < s) (k6 : r < 0) :
    Calls Tryd.prog 43 #[.slice a n c, .agg #[.int .i64 q0, .int .i64 t, .int .i64 f, .int .i64 r, .int .i64 s]] w fun e w' => e = .returned (.tuple #[.slice none 0 0, .bool false]) ∧ Mods Nix w w' := by
  obtain ⟨P0, hP0⟩ : ∃ P0, Eqn P0 w.heap.size := ⟨_, ⟨rfl⟩⟩
  obtain ⟨W1, hW1⟩ : ∃ W1, Eqn W1 (w.alloc (.cells #[.int .i64 q0, .int .i64 t, .int .i64 f, .int .i64 r, .int .i64 s] 52)) := ⟨_, ⟨rfl⟩⟩
  have hR0 : RB W1 P0 52 (ents q0 t f r s) := by
    rw [hW1.out, hP0.out]
    exact RB.new w (ents q0 t f r s) 52
  have hM1 : Mods Nix w W1 := by rw [hW1.out]; exact alloc_mods _ _
  have E1 : EC W1 P0 q0 t f r s := ec hR0
  have d1 := E1.c1
  have d2 := E1.c2
  have d3 := E1.c3
  have d4 := E1.c4
  clear E1 hR0
  go_enter Tryd.func43, Tryd.ntmps43
  go_upto_region 1 with fail
  rw [← hW1.out, ← hP0.out]
  go_wp2_with fail
  go_ret2
  exact ⟨rfl, hM1⟩
set_option maxRecDepth 100000 in
theorem f43n7 (w : World) (a : Option Addr) (n c : Nat) (hn : n ≤ 100000) (q0 t f r s : Int) (h1 : (((n : Int) % 52) != 0) = false) (k1 : ¬ t < 0) (k2 : ¬ f < 0) (k3 : ¬ 65535 < f) (k4 : ¬ s < 0) (k5 : ¬ 65535 < s) (k6 : ¬ r < 0) (k7 : 4294967295 < r) :
    Calls Tryd.prog 43 #[.slice a n c, .agg #[.int .i64 q0, .int .i64 t, .int .i64 f, .int .i64 r, .int .i64 s]] w fun e w' => e = .returned (.tuple #[.slice none 0 0, .bool false]) ∧ Mods Nix w w' := by
  obtain ⟨P0, hP0⟩ : ∃ P0, Eqn P0 w.heap.size := ⟨_, ⟨rfl⟩⟩
  obtain ⟨W1, hW1⟩ : ∃ W1, Eqn W1 (w.alloc (.cells #[.int .i64 q0, .int .i64 t, .int .i64 f, .int .i64 r, .int .i64 s] 52)) := ⟨_, ⟨rfl⟩⟩
  have hR0 : RB W1 P0 52 (ents q0 t f r s) := by
    rw [hW1.out, hP0.out]
    exact RB.new w (ents q0 t f r s) 52
  have hM1 : Mods Nix w W1 := by rw [hW1.out]; exact alloc_mods _ _
  have E1 : EC W1 P0 q0 t f r s := ec hR0
  have d1 := E1.c1
  have d2 := E1.c2
  have d3 := E1.c3
  have d4 := E1.c4
  clear E1 hR0
  go_enter Tryd.func43, Tryd.ntmps43
  go_upto_region 1 with fail
  rw [← hW1.out, ← hP0.out]
  go_wp2_with fail
  go_ret2
  exact ⟨rfl, hM1⟩
theorem f43n (w : World) (a : Option Addr) (n c : Nat) (hn : n ≤ 100000) (q0 t f r s : Int) (bad : ¬ OkE n t f r s) :
    Calls Tryd.prog 43 #[.slice a n c, .agg #[.int .i64 q0, .int .i64 t, .int .i64 f, .int .i64 r, .int .i64 s]] w fun e w' => e = .returned (.tuple #[.slice none 0 0, .bool false]) ∧ Mods Nix w w' := by
  by_cases h1 : n % 52 = 0
  · have k1' : (((n : Int) % 52) != 0) = false := by simp; omega
    by_cases h2 : t < 0
    · exact f43n1 w a n c hn q0 t f r s k1' h2
    by_cases h3 : f < 0
    · exact f43n2 w a n c hn q0 t f r s k1' h2 h3
    by_cases h4 : 65535 < f
    · exact f43n3 w a n c hn q0 t f r s k1' h2 h3 h4
    by_cases h5 : s < 0
    · exact f43n4 w a n c hn q0 t f r s k1' h2 h3 h4 h5
    by_cases h6 : 65535 < s
    · exact f43n5 w a n c hn q0 t f r s k1' h2 h3 h4 h5 h6
    by_cases h7 : r < 0
    · exact f43n6 w a n c hn q0 t f r s k1' h2 h3 h4 h5 h6 h7
    by_cases h8 : 4294967295 < r
    · exact f43n7 w a n c hn q0 t f r s k1' h2 h3 h4 h5 h6 h7 h8
    · exact (bad ⟨h1, h2, h3, h4, h5, h6, h7, h8⟩).elim
  · exact f43n0 w a n c hn q0 t f r s (by simp; omega)
set_option maxRecDepth 100000 in
theorem f44n0 (w : World) (a : Option Addr) (n c : Nat) (hn : n ≤ 100000) (q0 t f r s : Int) (h1 : (((n : Int) % 52) != 0) = true) :
    Calls Tryd.prog 44 #[.slice a n c, .agg #[.int .i64 q0, .int .i64 t, .int .i64 f, .int .i64 r, .int .i64 s]] w fun e w' => e = .returned (.tuple #[.slice none 0 0, .bool false]) ∧ Mods Nix w w' := by
  obtain ⟨P0, hP0⟩ : ∃ P0, Eqn P0 w.heap.size := ⟨_, ⟨rfl⟩⟩
  obtain ⟨W1, hW1⟩ : ∃ W1, Eqn W1 (w.alloc (.cells #[.int .i64 q0, .int .i64 t, .int .i64 f, .int .i64 r, .int .i64 s] 52)) := ⟨_, ⟨rfl⟩⟩
  have hR0 : RB W1 P0 52 (ents q0 t f r s) := by
    rw [hW1.out, hP0.out]
    exact RB.new w (ents q0 t f r s) 52
  have hM1 : Mods Nix w W1 := by rw [hW1.out]; exact alloc_mods _ _
  have E1 : EC W1 P0 q0 t f r s := ec hR0
  have d1 := E1.c1
  have d2 := E1.c2
  have d3 := E1.c3
  have d4 := E1.c4
  clear E1 hR0
  go_enter Tryd.func44, Tryd.ntmps44
  go_upto_region 1 with fail
  rw [← hW1.out, ← hP0.out]
  go_wp2_with fail
  go_ret2
  exact ⟨rfl, hM1⟩
set_option maxRecDepth 100000 in
theorem f44n1 (w : World) (a : Option Addr) (n c : Nat) (hn : n ≤ 100000) (q0 t f r s : Int) (h1 : (((n : Int) % 52) != 0) = false) (k1 : t < 0) :
    Calls Tryd.prog 44 #[.slice a n c, .agg #[.int .i64 q0, .int .i64 t, .int .i64 f, .int .i64 r, .int .i64 s]] w fun e w' => e = .returned (.tuple #[.slice none 0 0, .bool false]) ∧ Mods Nix w w' := by
  obtain ⟨P0, hP0⟩ : ∃ P0, Eqn P0 w.heap.size := ⟨_, ⟨rfl⟩⟩
  obtain ⟨W1, hW1⟩ : ∃ W1, Eqn W1 (w.alloc (.cells #[.int .i64 q0, .int .i64 t, .int .i64 f, .int .i64 r, .int .i64 s] 52)) := ⟨_, ⟨rfl⟩⟩
  have hR0 : RB W1 P0 52 (ents q0 t f r s) := by
    rw [hW1.out, hP0.out]
    exact RB.new w (ents q0 t f r s) 52
  have hM1 : Mods Nix w W1 := by rw [hW1.out]; exact alloc_mods _ _
  have E1 : EC W1 P0 q0 t f r s := ec hR0
  have d1 := E1.c1
  have d2 := E1.c2
  have d3 := E1.c3
  have d4 := E1.c4
  clear E1 hR0
  go_enter Tryd.func44, Tryd.ntmps44
  go_upto_region 1 with fail
  rw [← hW1.out, ← hP0.out]
  go_wp2_with fail
  go_ret2
  exact ⟨rfl, hM1⟩
set_option maxRecDepth 100000 in
theorem f44n2 (w : World) (a : Option Addr) (n c : Nat) (hn : n ≤ 100000) (q0 t f r s : Int) (h1 : (((n : Int) % 52) != 0) = false) (k1 : ¬ t < 0) (k2 : f < 0) :
    Calls Tryd.prog 44 #[.slice a n c, .agg #[.int .i64 q0, .int .i64 t, .int .i64 f, .int .i64 r, .int .i64 s]] w fun e w' => e = .returned (.tuple #[.slice none 0 0, .bool false]) ∧ Mods Nix w w' := by
  obtain ⟨P0, hP0⟩ : ∃ P0, Eqn P0 w.heap.size := ⟨_, ⟨rfl⟩⟩
  obtain ⟨W1, hW1⟩ : ∃ W1, Eqn W1 (w.alloc (.cells #[.int .i64 q0, .int .i64 t, .int .i64 f, .int .i64 r, .int .i64 s] 52)) := ⟨_, ⟨rfl⟩⟩
  have hR0 : RB W1 P0 52 (ents q0 t f r s) := by
    rw [hW1.out, hP0.out]
    exact RB.new w (ents q0 t f r s) 52
  have hM1 : Mods Nix w W1 := by rw [hW1.out]; exact alloc_mods _ _
  have E1 : EC W1 P0 q0 t f r s := ec hR0
  have d1 := E1.c1
  have d2 := E1.c2
  have d3 := E1.c3
  have d4 := E1.c4
  clear E1 hR0
  go_enter Tryd.func44, Tryd.ntmps44
  go_upto_region 1 with fail
  rw [← hW1.out, ← hP0.out]
  go_wp2_with fail
  go_ret2
  exact ⟨rfl, hM1⟩
set_option maxRecDepth 100000 in
theorem f44n3 (w : World) (a : Option Addr) (n c : Nat) (hn : n ≤ 100000) (q0 t f r s : Int) (h1 : (((n : Int) % 52) != 0) = false) (k1 : ¬ t < 0) (k2 : ¬ f < 0) (k3 : 65535 < f) :
    Calls Tryd.prog 44 #[.slice a n c, .agg #[.int .i64 q0, .int .i64 t, .int .i64 f, .int .i64 r, .int .i64 s]] w fun e w' => e = .returned (.tuple #[.slice none 0 0, .bool false]) ∧ Mods Nix w w' := by
  obtain ⟨P0, hP0⟩ : ∃ P0, Eqn P0 w.heap.size := ⟨_, ⟨rfl⟩⟩
  obtain ⟨W1, hW1⟩ : ∃ W1, Eqn W1 (w.alloc (.cells #[.int .i64 q0, .int .i64 t, .int .i64 f, .int .i64 r, .int .i64 s] 52)) := ⟨_, ⟨rfl⟩⟩
  have hR0 : RB W1 P0 52 (ents q0 t f r s) := by
    rw [hW1.out, hP0.out]
    exact RB.new w (ents q0 t f r s) 52
  have hM1 : Mods Nix w W1 := by rw [hW1.out]; exact alloc_mods _ _
  have E1 : EC W1 P0 q0 t f r s := ec hR0
  have d1 := E1.c1
  have d2 := E1.c2
  have d3 := E1.c3
  have d4 := E1.c4
  clear E1 hR0
  go_enter Tryd.func44, Tryd.ntmps44
  go_upto_region 1 with fail
  rw [← hW1.out, ← hP0.out]
  go_wp2_with fail
  go_ret2
  exact ⟨rfl, hM1⟩
set_option maxRecDepth 100000 in
theorem f44n4 (w : World) (a : Option Addr) (n c : Nat) (hn : n ≤ 100000) (q0 t f r s : Int) (h1 : (((n : Int) % 52) != 0) = false) (k1 : ¬ t < 0) (k2 : ¬ f < 0) (k3 : ¬ 65535 < f) (k4 : s < 0) :
    Calls Tryd.prog 44 #[.slice a n c, .agg #[.int .i64 q0, .int .i64 t, .int .i64 f, .int .i64 r, .int .i64 s]] w fun e w' => e = .returned (.tuple #[.slice none 0 0, .bool false]) ∧ Mods Nix w w' := by
  obtain ⟨P0, hP0⟩ : ∃ P0, Eqn P0 w.heap.size := ⟨_, ⟨rfl⟩⟩
  obtain ⟨W1, hW1⟩ : ∃ W1, Eqn W1 (w.alloc (.cells #[.int .i64 q0, .int .i64 t, .int .i64 f, .int .i64 r, .int .i64 s] 52)) := ⟨_, ⟨rfl⟩⟩
  have hR0 : RB W1 P0 52 (ents q0 t f r s) := by
    rw [hW1.out, hP0.out]
    exact RB.new w (ents q0 t f r s) 52
  have hM1 : Mods Nix w W1 := by rw [hW1.out]; exact alloc_mods _ _
  have E1 : EC W1 P0 q0 t f r s := ec hR0
  have d1 := E1.c1
  have d2 := E1.c2
  have d3 := E1.c3
  have d4 := E1.c4
  clear E1 hR0
  go_enter Tryd.func44, Tryd.ntmps44
  go_upto_region 1 with fail
  rw [← hW1.out, ← hP0.out]
  go_wp2_with fail
  go_ret2
  exact ⟨rfl, hM1⟩
set_option maxRecDepth 100000 in
theorem f44n5 (w : World) (a : Option Addr) (n c : Nat) (hn : n ≤ 100000) (q0 t f r s : Int) (h1 : (((n : Int) % 52) != 0) = false) (k1 : ¬ t < 0) (k2 : ¬ f < 0) (k3 : ¬ 65535 < f) (k4 : ¬ s < 0) (k5 : 65535 < s) :
    Calls Tryd.prog 44 #[.slice a n c, .agg #[.int .i64 q0, .int .i64 t, .int .i64 f, .int .i64 r, .int .i64 s]] w fun e w' => e = .returned (.tuple #[.slice none 0 0, .bool false]) ∧ Mods Nix w w' := by
  obtain ⟨P0, hP0⟩ : ∃ P0, Eqn P0 w.heap.size := ⟨_, ⟨rfl⟩⟩
  obtain ⟨W1, hW1⟩ : ∃ W1, Eqn W1 (w.alloc (.cells #[.int .i64 q0, .int .i64 t, .int .i64 f, .int .i64 r, .int .i64 s] 52)) := ⟨_, ⟨rfl⟩⟩
  have hR0 : RB W1 P0 52 (ents q0 t f r s) := by
    rw [hW1.out, hP0.out]
    exact RB.new w (ents q0 t f r s) 52
  have hM1 : Mods Nix w W1 := by rw [hW1.out]; exact alloc_mods _ _
  have E1 : EC W1 P0 q0 t f r s := ec hR0
  have d1 := E1.c1
  have d2 := E1.c2
  have d3 := E1.c3
  have d4 := E1.c4
  clear E1 hR0
  go_enter Tryd.func44, Tryd.ntmps44
  go_upto_region 1 with fail
  rw [← hW1.out, ← hP0.out]
  go_wp2_with fail
  go_ret2
  exact ⟨rfl, hM1⟩
set_option maxRecDepth 100000 in
theorem f44n6 (w : World) (a : Option Addr) (n c : Nat) (hn : n ≤ 100000) (q0 t f r s : Int) (h1 : (((n : Int) % 52) != 0) = false) (k1 : ¬ t < 0) (k2 : ¬ f < 0) (k3 : ¬ 65535 < f) (k4 : ¬ s < 0) (k5 : ¬ 65535 < s) (k6 : r < 0) :
    Calls Tryd.prog 44 #[.slice a n c, .agg #[.int .i64 q0, .int .i64 t, .int .i64 f, .int .i64 r, .int .i64 s]] w fun e w' => e = .returned (.tuple #[.slice none 0 0, .bool false]) ∧ Mods Nix w w' := by
  obtain ⟨P0, hP0⟩ : ∃ P0, Eqn P0 w.heap.size := ⟨_, ⟨rfl⟩⟩
  obtain ⟨W1, hW1⟩ : ∃ W1, Eqn W1 (w.alloc (.cells #[.int .i64 q0, .int .i64 t, .int .i64 f, .int .i64 r, .int .i64 s] 52)) := ⟨_, ⟨rfl⟩⟩
  have hR0 : RB W1 P0 52 (ents q0 t f r s) := by
    rw [hW1.out, hP0.out]
    exact RB.new w (ents q0 t f r s) 52
  have hM1 : Mods Nix w W1 := by rw [hW1.out]; exact alloc_mods _ _
  have E1 : EC W1 P0 q0 t f r s := ec hR0
  have d1 := E1.c1
  have d2 := E1.c2
  have d3 := E1.c3
  have d4 := E1.c4
  clear E1 hR0
  go_enter Tryd.func44, Tryd.ntmps44
  go_upto_region 1 with fail
  rw [← hW1.out, ← hP0.out]
  go_wp2_with fail
  go_ret2
  exact ⟨rfl, hM1⟩
set_option maxRecDepth 100000 in
theorem f44n7 (w : World) (a : Option Addr) (n c : Nat) (hn : n ≤ 100000) (q0 t f r s : Int) (h1 : (((n : Int) % 52) != 0) = false) (k1 : ¬ t < 0) (k2 : ¬ f < 0) (k3 : ¬ 65535 < f) (k4 : ¬ s < 0) (k5 : ¬ 65535 < s) (k6 : ¬ r < 0) (k7 : 4294967295 < r) :
    Calls Tryd.prog 44 #[.slice a n c, .agg #[.int .i64 q0, .int .i64 t, .int .i64 f, .int .i64 r, .int .i64 s]] w fun e w' => e = .returned (.tuple #[.slice none 0 0, .bool false]) ∧ Mods Nix w w' := by
  obtain ⟨P0, hP0⟩ : ∃ P0, Eqn P0 w.heap.size := ⟨_, ⟨rfl⟩⟩
  obtain ⟨W1, hW1⟩ : ∃ W1, Eqn W1 (w.alloc (.cells #[.int .i64 q0, .int .i64 t, .int .i64 f, .int .i64 r, .int .i64 s] 52)) := ⟨_, ⟨rfl⟩⟩
  have hR0 : RB W1 P0 52 (ents q0 t f r s) := by
    rw [hW1.out, hP0.out]
    exact RB.new w (ents q0 t f r s) 52
  have hM1 : Mods Nix w W1 := by rw [hW1.out]; exact alloc_mods _ _
  have E1 : EC W1 P0 q0 t f r s := ec hR0
  have d1 := E1.c1
  have d2 := E1.c2
  have d3 := E1.c3
  have d4 := E1.c4
  clear E1 hR0
  go_enter Tryd.func44, Tryd.ntmps44
  go_upto_region 1 with fail
  rw [← hW1.out, ← hP0.out]
  go_wp2_with fail
  go_ret2
  exact ⟨rfl, hM1⟩
theorem f44n (w : World) (a : Option Addr) (n c : Nat) (hn : n ≤ 100000) (q0 t f r s : Int) (bad : ¬ OkE n t f r s) :
    Calls Tryd.prog 44 #[.slice a n c, .agg #[.int .i64 q0, .int .i64 t, .int .i64 f, .int .i64 r, .int .i64 s]] w fun e w' => e = .returned (.tuple #[.slice none 0 0, .bool false]) ∧ Mods Nix w w' := by
  by_cases h1 : n % 52 = 0
  · have k1' : (((n : Int) % 52) != 0) = false := by simp; omega
    by_cases h2 : t < 0
    · exact f44n1 w a n c hn q0 t f r s k1' h2
    by_cases h3 : f < 0
    · exact f44n2 w a n c hn q0 t f r s k1' h2 h3
    by_cases h4 : 65535 < f
    · exact f44n3 w a n c hn q0 t f r s k1' h2 h3 h4
    by_cases h5 : s < 0
    · exact f44n4 w a n c hn q0 t f r s k1' h2 h3 h4 h5
    by_cases h6 : 65535 < s
    · exact f44n5 w a n c hn q0 t f r s k1' h2 h3 h4 h5 h6
    by_cases h7 : r < 0
    · exact f44n6 w a n c hn q0 t f r s k1' h2 h3 h4 h5 h6 h7
    by_cases h8 : 4294967295 < r
    · exact f44n7 w a n c hn q0 t f r s k1' h2 h3 h4 h5 h6 h7 h8
    · exact (bad ⟨h1, h2, h3, h4, h5, h6, h7, h8⟩).elim
  · exact f44n0 w a n c hn q0 t f r s (by simp; omega)
/-- What an append onto nothing leaves. -/
theorem app_nil {w w' : World} {a' : Option Addr} {n c' : Nat} {l : List Int} (h : AppOut w w' 5 1 none a' (0 + n) c' n (bv [] ++ bv l)) : SumOut w w' a' n c' l := by
  have h1 := h.own
  rw [Nat.zero_add, ← bv_append, List.nil_append] at h1
  exact ⟨h1, h.new (New.none _) (Nat.le_refl _), h.mods.mono (fun i _ ⟨ad, e, _⟩ => by cases e)⟩
theorem quo52 (n q : Nat) (hq : Eqn q (n / 52)) : (n : Int) / 52 = q := by rw [hq.out]; omega
set_option maxRecDepth 100000 in
set_option maxHeartbeats 2000000 in
theorem f44y (w : World) (a : Option Addr) (n c : Nat) (l : List Int) (hs : Sv w 5 1 a n c (bv l)) (hB : Byt l) (hn : n ≤ 100000) (q0 t f r s : Int) (ht : t ≤ 9223372036854775807) (ok : OkE n t f r s) :
    Calls Tryd.prog 44 #[.slice a n c, .agg #[.int .i64 q0, .int .i64 t, .int .i64 f, .int .i64 r, .int .i64 s]] w fun e w' => ∃ a' c', e = .returned (.tuple #[.slice a' (n + 52) c', .bool true]) ∧ SumOut w w' a' (n + 52) c' (l ++ lineOf (headOf l) ((n / 52 : Nat) : Int) t f r s) := by
  have h1' : (((n : Int) % 52) != 0) = false := by have := ok.n52; simp; omega
  obtain ⟨-, h2, h3, h4, h5, h6, h7, h8⟩ := ok
  obtain ⟨q, hq⟩ : ∃ q, Eqn q (n / 52) := ⟨_, ⟨rfl⟩⟩
  rw [← hq.out]
  have hqn : q ≤ 100000 := by rw [hq.out]; omega
  have nq : Nn q := ⟨by omega, by omega⟩
  have nt : Nn t := ⟨by omega, ht⟩
  have nf : Nn f := ⟨by omega, by omega⟩
  have nr : Nn r := ⟨by omega, by omega⟩
  have ns : Nn s := ⟨by omega, by omega⟩
  obtain ⟨P0, hP0⟩ : ∃ P0, Eqn P0 w.heap.size := ⟨_, ⟨rfl⟩⟩
  obtain ⟨W1, hW1⟩ : ∃ W1, Eqn W1 (w.alloc (.cells #[.int .i64 q0, .int .i64 t, .int .i64 f, .int .i64 r, .int .i64 s] 52)) := ⟨_, ⟨rfl⟩⟩
  have hR0 : RB W1 P0 52 (ents q0 t f r s) := by
    rw [hW1.out, hP0.out]
    exact RB.new w (ents q0 t f r s) 52
  have hM1 : Mods Nix w W1.drew := by rw [hW1.out]; exact (alloc_mods _ _).drew
  have hRd := hR0.drew
  have e0 : W1.drew.cell? ⟨P0, 0, none⟩ = some (.int .i64 q0) := hRd.cell rfl
  have e1 : W1.drew.cell? ⟨P0, 1, none⟩ = some (.int .i64 t) := hRd.cell rfl
  have e2 : W1.drew.cell? ⟨P0, 2, none⟩ = some (.int .i64 f) := hRd.cell rfl
  have e3 : W1.drew.cell? ⟨P0, 3, none⟩ = some (.int .i64 r) := hRd.cell rfl
  have e4 : W1.drew.cell? ⟨P0, 4, none⟩ = some (.int .i64 s) := hRd.cell rfl
  have E1 : EC W1 P0 q0 t f r s := ec hR0
  have d1 := E1.c1
  have d2 := E1.c2
  have d3 := E1.c3
  have d4 := E1.c4
  have hs1 := hs.mods hM1 (fun _ _ f => f)
  have hLn : Lim (n + 300) := ⟨by omega⟩
  have T48 : Calls Tryd.prog 48 #[.slice a n c] W1.drew fun e w' => ∃ a' c', e = .returned (.slice a' 32 c') ∧ SumOut W1.drew w' a' 32 c' (headOf l) := f48 _ a n c l hs1 hLn
  have T102 : ∀ {w3 : World} {a3 : Option Addr} {c3 : Nat}, SumOut W1.drew w3 a3 32 c3 (headOf l) → Calls Tryd.prog 102 #[.slice a3 32 c3, .int .i64 q, .agg #[.int .i64 q0, .int .i64 t, .int .i64 f, .int .i64 r, .int .i64 s]] w3 fun e w' => ∃ a' c', e = .returned (.slice a' 52 c') ∧ SumOut w3 w' a' 52 c' (lineOf (headOf l) q t f r s) :=
    fun hS => f102 _ _ 32 _ _ hS.own.toSv (byt_headOf hB) (by omega) q q0 t f r s nq nt nf nr ns
  have hq1 := quo52 n q hq
  have hq2 : ((n : Int)).tdiv 52 = q := by rw [Int.tdiv_eq_ediv_of_nonneg (by omega)]; exact hq1
  have hq3 : IntKind.i64.wrap (q : Int) = q := IntWalk.i64_in _ (by omega)
  have hL52 : Lim (n + 52) := hLn.of (by omega)
  have hLn0 : Lim (0 + n) := hLn.of (by omega)
  have nix : ∀ {i}, ¬ Nix i := fun f => f
  clear nq nt nf nr ns hs hqn
  go_enter Tryd.func44, Tryd.ntmps44
  go_upto_region 1 with fail
  rw [← hW1.out, ← hP0.out]
  go_upto_region 3 with fail
  clear d1 d2 d3 d4 E1 h1' h2 h3 h4 h5 h6 h7 h8
  go_region_held3 (fun w' => w'.cell? ⟨P0, 0, none⟩ = some (.int .i64 q0) ∧ w'.cell? ⟨P0, 1, none⟩ = some (.int .i64 t) ∧ w'.cell? ⟨P0, 2, none⟩ = some (.int .i64 f) ∧ w'.cell? ⟨P0, 3, none⟩ = some (.int .i64 r) ∧ w'.cell? ⟨P0, 4, none⟩ = some (.int .i64 s)) (first | (refine ⟨?_, ?_, ?_, ?_, ?_⟩ <;> assumption)) (first | (go_at_call 48; with_reducible refine T48.mono ?_; rintro e w3 ⟨a3, c3, rfl, hS3⟩; have g0 := hS3.cell e0; have g1 := hS3.cell e1; have g2 := hS3.cell e2; have g3 := hS3.cell e3; have g4 := hS3.cell e4; have T6 := T102 hS3) | (go_at_call 102; with_reducible refine T6.mono ?_; rintro e w4 ⟨a4, c4, rfl, hS4⟩; have k0 := hS4.cell g0; have k1 := hS4.cell g1; have k2 := hS4.cell g2; have k3 := hS4.cell g3; have k4 := hS4.cell g4))
  simp only [Exit.then]
  go_at_K
  have hM3 : Mods Nix W1.drew w4 := hS3.mods.trans' hS4.mods (fun _ _ f => f)
  have hM4 : Mods Nix w w4 := hM1.trans' hM3 (fun _ _ f => f)
  have hs4 := hs1.mods hM3 (fun _ _ f => f)
  have hS4o := hS4.own.toSv
  have hON : Own w4 5 1 none 0 0 (bv []) := own_nil w4
  clear e0 e1 e2 e3 e4 g0 g1 g2 g3 g4 k0 k1 k2 k3 k4 T48 T102 T6 hq1 hq2 hq3 hs1 hS3 hS4
  go_wp2_with (first | (at_builtin; with_reducible refine wpList_app rfl (.const (.slice none 0 0)) (.tmp 53) ei22 rfl hON hs4 rfl rfl (bv_one _) (lim_app hLn0) hLn0.maxLen ?_; intro a5 c5 w5 hO5; have hO5n := app_nil hO5; have hO5o := hO5n.own; have hS5 := hO5n.step hS4o) | (at_builtin; with_reducible refine wpList_app rfl (.tmp 54) (.tmp 55) ei22 rfl hO5o hS5 rfl rfl (bv_one _) (lim_app hL52) hL52.maxLen ?_; intro a6 c6 w6 hO6))
  go_ret2
  have hN5 := hO5n.fresh
  have hM5 := hO5n.mods
  have hN0 : New w.heap.size a5 := hN5.mono hM4.size
  refine ⟨a6, c6, rfl, ?_, hO6.new hN0 (Nat.le_trans hM4.size hM5.size), (hM4.trans' hM5 (fun _ _ f => f)).trans' hO6.mods (fun i hi ⟨ad, e, hb⟩ => by have := hN0 ad e; omega)⟩
  rw [bv_append]
  exact hO6.own
end Go.Proofs.YtladijfaeieidaaDoor
