/- Contracts of the small functions: sizes of hashes, rotations, numbers out of bytes. No condition but on lengths. -/
import Derived.Test.YtladijfaeieidaaDoorB
namespace Go.Proofs.YtladijfaeieidaaDoor
open Go.RowKit

theorem ret_int {k : IntKind} {a b : Int} (h : a = b) : Ending.returned (.int k a) = .returned (.int k b) := by rw [h]
theorem bits_or_comm (k : IntKind) (a b : Int) : bits .or k a b = bits .or k b a := by simp [bits, BitVec.or_comm]

theorem ei22 : EI Tryd.prog 22 5 (.int .u8 0) 1 1 := ⟨Tryd.underlying22, info_parts (by kernel_rfl), rfl, by decide⟩
theorem ei105 : EI Tryd.prog 105 104 (.int .u32 0) 1 4 := ⟨Tryd.underlying105, info_parts (by kernel_rfl), rfl, by decide⟩
theorem ei108 : EI Tryd.prog 108 107 (.int .u64 0) 1 8 := ⟨Tryd.underlying108, info_parts (by kernel_rfl), rfl, by decide⟩
theorem ei29 : EI Tryd.prog 29 22 (.slice none 0 0) 1 24 := ⟨Tryd.underlying29, info_parts (by kernel_rfl), rfl, by decide⟩

/-- How many bytes a hash has; 0: there is no such kind. -/
def hsz (k : Int) : Nat := if k = 1 then 20 else if k = 2 then 28 else if k = 3 then 32 else if k = 4 then 48 else if k = 5 then 64 else 0
/-- How many bytes a block has. -/
def hbl (k : Int) : Nat := if k = 1 then 64 else if k = 2 then 64 else if k = 3 then 64 else if k = 4 then 128 else if k = 5 then 128 else 0

theorem f27 (k : Int) (w : World) : Calls Tryd.prog 27 #[.int .i64 k] w fun e w' => e = .returned (.int .i64 (hsz k)) ∧ w = w' := by
  by_cases h1 : k = 1
  · subst h1; go_enter Tryd.func27, Tryd.ntmps27; go_wp2; go_ret; exact ⟨rfl, rfl⟩
  by_cases h2 : k = 2
  · subst h2; go_enter Tryd.func27, Tryd.ntmps27; go_wp2; go_ret; exact ⟨rfl, rfl⟩
  by_cases h3 : k = 3
  · subst h3; go_enter Tryd.func27, Tryd.ntmps27; go_wp2; go_ret; exact ⟨rfl, rfl⟩
  by_cases h4 : k = 4
  · subst h4; go_enter Tryd.func27, Tryd.ntmps27; go_wp2; go_ret; exact ⟨rfl, rfl⟩
  by_cases h5 : k = 5
  · subst h5; go_enter Tryd.func27, Tryd.ntmps27; go_wp2; go_ret; exact ⟨rfl, rfl⟩
  have e : hsz k = 0 := by simp [hsz, h1, h2, h3, h4, h5]
  rw [e]
  go_enter Tryd.func27, Tryd.ntmps27
  go_wp2
  go_ret
  exact ⟨rfl, rfl⟩

theorem f28 (k : Int) (w : World) : Calls Tryd.prog 28 #[.int .i64 k] w fun e w' => e = .returned (.int .i64 (hsz k)) ∧ w = w' := by
  by_cases h1 : k = 1
  · subst h1; go_enter Tryd.func28, Tryd.ntmps28; go_wp2; go_ret; exact ⟨rfl, rfl⟩
  by_cases h2 : k = 2
  · subst h2; go_enter Tryd.func28, Tryd.ntmps28; go_wp2; go_ret; exact ⟨rfl, rfl⟩
  by_cases h3 : k = 3
  · subst h3; go_enter Tryd.func28, Tryd.ntmps28; go_wp2; go_ret; exact ⟨rfl, rfl⟩
  by_cases h4 : k = 4
  · subst h4; go_enter Tryd.func28, Tryd.ntmps28; go_wp2; go_ret; exact ⟨rfl, rfl⟩
  by_cases h5 : k = 5
  · subst h5; go_enter Tryd.func28, Tryd.ntmps28; go_wp2; go_ret; exact ⟨rfl, rfl⟩
  have e : hsz k = 0 := by simp [hsz, h1, h2, h3, h4, h5]
  rw [e]
  go_enter Tryd.func28, Tryd.ntmps28
  go_wp2
  go_ret
  exact ⟨rfl, rfl⟩

theorem f29 (k : Int) (w : World) : Calls Tryd.prog 29 #[.int .i64 k] w fun e w' => e = .returned (.int .i64 (hbl k)) ∧ w = w' := by
  by_cases h1 : k = 1
  · subst h1; go_enter Tryd.func29, Tryd.ntmps29; go_wp2; go_ret; exact ⟨rfl, rfl⟩
  by_cases h2 : k = 2
  · subst h2; go_enter Tryd.func29, Tryd.ntmps29; go_wp2; go_ret; exact ⟨rfl, rfl⟩
  by_cases h3 : k = 3
  · subst h3; go_enter Tryd.func29, Tryd.ntmps29; go_wp2; go_ret; exact ⟨rfl, rfl⟩
  by_cases h4 : k = 4
  · subst h4; go_enter Tryd.func29, Tryd.ntmps29; go_wp2; go_ret; exact ⟨rfl, rfl⟩
  by_cases h5 : k = 5
  · subst h5; go_enter Tryd.func29, Tryd.ntmps29; go_wp2; go_ret; exact ⟨rfl, rfl⟩
  have e : hbl k = 0 := by simp [hbl, h1, h2, h3, h4, h5]
  rw [e]
  go_enter Tryd.func29, Tryd.ntmps29
  go_wp2
  go_ret
  exact ⟨rfl, rfl⟩

theorem f30 (k : Int) (w : World) : Calls Tryd.prog 30 #[.int .i64 k] w fun e w' => e = .returned (.int .i64 (hbl k)) ∧ w = w' := by
  by_cases h1 : k = 1
  · subst h1; go_enter Tryd.func30, Tryd.ntmps30; go_wp2; go_ret; exact ⟨rfl, rfl⟩
  by_cases h2 : k = 2
  · subst h2; go_enter Tryd.func30, Tryd.ntmps30; go_wp2; go_ret; exact ⟨rfl, rfl⟩
  by_cases h3 : k = 3
  · subst h3; go_enter Tryd.func30, Tryd.ntmps30; go_wp2; go_ret; exact ⟨rfl, rfl⟩
  by_cases h4 : k = 4
  · subst h4; go_enter Tryd.func30, Tryd.ntmps30; go_wp2; go_ret; exact ⟨rfl, rfl⟩
  by_cases h5 : k = 5
  · subst h5; go_enter Tryd.func30, Tryd.ntmps30; go_wp2; go_ret; exact ⟨rfl, rfl⟩
  have e : hbl k = 0 := by simp [hbl, h1, h2, h3, h4, h5]
  rw [e]
  go_enter Tryd.func30, Tryd.ntmps30
  go_wp2
  go_ret
  exact ⟨rfl, rfl⟩

/-- Rotation to the right: of 32 bits by 32 - s (the number is p = 2^(32-s), q = 2^s). -/
def ror (k : IntKind) (p q m : Int) (x : Int) : Int := bits .or k (x / p) (x * q % m)

/-- How a number is turned by n places, each n that occurs: by this name, that the walk does not look into it. -/
def p32_7 (x : Int) : Int := ror .u32 128 33554432 4294967296 x
def p32_18 (x : Int) : Int := ror .u32 262144 16384 4294967296 x
def p32_17 (x : Int) : Int := ror .u32 131072 32768 4294967296 x
def p32_19 (x : Int) : Int := ror .u32 524288 8192 4294967296 x
def p32_6 (x : Int) : Int := ror .u32 64 67108864 4294967296 x
def p32_11 (x : Int) : Int := ror .u32 2048 2097152 4294967296 x
def p32_25 (x : Int) : Int := ror .u32 33554432 128 4294967296 x
def p32_2 (x : Int) : Int := ror .u32 4 1073741824 4294967296 x
def p32_13 (x : Int) : Int := ror .u32 8192 524288 4294967296 x
def p32_22 (x : Int) : Int := ror .u32 4194304 1024 4294967296 x
def q32_1 (x : Int) : Int := ror .u32 2147483648 2 4294967296 x
def q32_5 (x : Int) : Int := ror .u32 134217728 32 4294967296 x
def q32_30 (x : Int) : Int := ror .u32 4 1073741824 4294967296 x
def p64_1 (x : Int) : Int := ror .u64 2 9223372036854775808 18446744073709551616 x
def p64_8 (x : Int) : Int := ror .u64 256 72057594037927936 18446744073709551616 x
def p64_19 (x : Int) : Int := ror .u64 524288 35184372088832 18446744073709551616 x
def p64_61 (x : Int) : Int := ror .u64 2305843009213693952 8 18446744073709551616 x
def p64_14 (x : Int) : Int := ror .u64 16384 1125899906842624 18446744073709551616 x
def p64_18 (x : Int) : Int := ror .u64 262144 70368744177664 18446744073709551616 x
def p64_41 (x : Int) : Int := ror .u64 2199023255552 8388608 18446744073709551616 x
def p64_28 (x : Int) : Int := ror .u64 268435456 68719476736 18446744073709551616 x
def p64_34 (x : Int) : Int := ror .u64 17179869184 1073741824 18446744073709551616 x
def p64_39 (x : Int) : Int := ror .u64 549755813888 33554432 18446744073709551616 x

theorem f151_r7 (x : Int) (w : World) : Calls Tryd.prog 151 #[.int .u32 x, .int .i64 (-7)] w fun e w' => e = .returned (.int .u32 (p32_7 x)) ∧ w = w' := by
  have h : bits .and .u64 (IntKind.u64.wrap (-7)) 31 = 25 := by decide +kernel
  go_enter Tryd.func151, Tryd.ntmps151
  go_wp2
  go_ret
  exact ⟨ret_int (by first | rfl | exact bits_or_comm _ _ _), rfl⟩

theorem f130_7 (x : Int) (w : World) : Calls Tryd.prog 130 #[.int .u32 x, .int .u64 7] w fun e w' => e = .returned (.int .u32 (p32_7 x)) ∧ w = w' := by
  go_enter Tryd.func130, Tryd.ntmps130
  go_wp2
  go_ret
  exact ⟨ret_int (by first | rfl | exact bits_or_comm _ _ _), rfl⟩

theorem f151_r18 (x : Int) (w : World) : Calls Tryd.prog 151 #[.int .u32 x, .int .i64 (-18)] w fun e w' => e = .returned (.int .u32 (p32_18 x)) ∧ w = w' := by
  have h : bits .and .u64 (IntKind.u64.wrap (-18)) 31 = 14 := by decide +kernel
  go_enter Tryd.func151, Tryd.ntmps151
  go_wp2
  go_ret
  exact ⟨ret_int (by first | rfl | exact bits_or_comm _ _ _), rfl⟩

theorem f130_18 (x : Int) (w : World) : Calls Tryd.prog 130 #[.int .u32 x, .int .u64 18] w fun e w' => e = .returned (.int .u32 (p32_18 x)) ∧ w = w' := by
  go_enter Tryd.func130, Tryd.ntmps130
  go_wp2
  go_ret
  exact ⟨ret_int (by first | rfl | exact bits_or_comm _ _ _), rfl⟩

theorem f151_r17 (x : Int) (w : World) : Calls Tryd.prog 151 #[.int .u32 x, .int .i64 (-17)] w fun e w' => e = .returned (.int .u32 (p32_17 x)) ∧ w = w' := by
  have h : bits .and .u64 (IntKind.u64.wrap (-17)) 31 = 15 := by decide +kernel
  go_enter Tryd.func151, Tryd.ntmps151
  go_wp2
  go_ret
  exact ⟨ret_int (by first | rfl | exact bits_or_comm _ _ _), rfl⟩

theorem f130_17 (x : Int) (w : World) : Calls Tryd.prog 130 #[.int .u32 x, .int .u64 17] w fun e w' => e = .returned (.int .u32 (p32_17 x)) ∧ w = w' := by
  go_enter Tryd.func130, Tryd.ntmps130
  go_wp2
  go_ret
  exact ⟨ret_int (by first | rfl | exact bits_or_comm _ _ _), rfl⟩

theorem f151_r19 (x : Int) (w : World) : Calls Tryd.prog 151 #[.int .u32 x, .int .i64 (-19)] w fun e w' => e = .returned (.int .u32 (p32_19 x)) ∧ w = w' := by
  have h : bits .and .u64 (IntKind.u64.wrap (-19)) 31 = 13 := by decide +kernel
  go_enter Tryd.func151, Tryd.ntmps151
  go_wp2
  go_ret
  exact ⟨ret_int (by first | rfl | exact bits_or_comm _ _ _), rfl⟩

theorem f130_19 (x : Int) (w : World) : Calls Tryd.prog 130 #[.int .u32 x, .int .u64 19] w fun e w' => e = .returned (.int .u32 (p32_19 x)) ∧ w = w' := by
  go_enter Tryd.func130, Tryd.ntmps130
  go_wp2
  go_ret
  exact ⟨ret_int (by first | rfl | exact bits_or_comm _ _ _), rfl⟩

theorem f151_r6 (x : Int) (w : World) : Calls Tryd.prog 151 #[.int .u32 x, .int .i64 (-6)] w fun e w' => e = .returned (.int .u32 (p32_6 x)) ∧ w = w' := by
  have h : bits .and .u64 (IntKind.u64.wrap (-6)) 31 = 26 := by decide +kernel
  go_enter Tryd.func151, Tryd.ntmps151
  go_wp2
  go_ret
  exact ⟨ret_int (by first | rfl | exact bits_or_comm _ _ _), rfl⟩

theorem f130_6 (x : Int) (w : World) : Calls Tryd.prog 130 #[.int .u32 x, .int .u64 6] w fun e w' => e = .returned (.int .u32 (p32_6 x)) ∧ w = w' := by
  go_enter Tryd.func130, Tryd.ntmps130
  go_wp2
  go_ret
  exact ⟨ret_int (by first | rfl | exact bits_or_comm _ _ _), rfl⟩

theorem f151_r11 (x : Int) (w : World) : Calls Tryd.prog 151 #[.int .u32 x, .int .i64 (-11)] w fun e w' => e = .returned (.int .u32 (p32_11 x)) ∧ w = w' := by
  have h : bits .and .u64 (IntKind.u64.wrap (-11)) 31 = 21 := by decide +kernel
  go_enter Tryd.func151, Tryd.ntmps151
  go_wp2
  go_ret
  exact ⟨ret_int (by first | rfl | exact bits_or_comm _ _ _), rfl⟩

theorem f130_11 (x : Int) (w : World) : Calls Tryd.prog 130 #[.int .u32 x, .int .u64 11] w fun e w' => e = .returned (.int .u32 (p32_11 x)) ∧ w = w' := by
  go_enter Tryd.func130, Tryd.ntmps130
  go_wp2
  go_ret
  exact ⟨ret_int (by first | rfl | exact bits_or_comm _ _ _), rfl⟩

theorem f151_r25 (x : Int) (w : World) : Calls Tryd.prog 151 #[.int .u32 x, .int .i64 (-25)] w fun e w' => e = .returned (.int .u32 (p32_25 x)) ∧ w = w' := by
  have h : bits .and .u64 (IntKind.u64.wrap (-25)) 31 = 7 := by decide +kernel
  go_enter Tryd.func151, Tryd.ntmps151
  go_wp2
  go_ret
  exact ⟨ret_int (by first | rfl | exact bits_or_comm _ _ _), rfl⟩

theorem f130_25 (x : Int) (w : World) : Calls Tryd.prog 130 #[.int .u32 x, .int .u64 25] w fun e w' => e = .returned (.int .u32 (p32_25 x)) ∧ w = w' := by
  go_enter Tryd.func130, Tryd.ntmps130
  go_wp2
  go_ret
  exact ⟨ret_int (by first | rfl | exact bits_or_comm _ _ _), rfl⟩

theorem f151_r2 (x : Int) (w : World) : Calls Tryd.prog 151 #[.int .u32 x, .int .i64 (-2)] w fun e w' => e = .returned (.int .u32 (p32_2 x)) ∧ w = w' := by
  have h : bits .and .u64 (IntKind.u64.wrap (-2)) 31 = 30 := by decide +kernel
  go_enter Tryd.func151, Tryd.ntmps151
  go_wp2
  go_ret
  exact ⟨ret_int (by first | rfl | exact bits_or_comm _ _ _), rfl⟩

theorem f130_2 (x : Int) (w : World) : Calls Tryd.prog 130 #[.int .u32 x, .int .u64 2] w fun e w' => e = .returned (.int .u32 (p32_2 x)) ∧ w = w' := by
  go_enter Tryd.func130, Tryd.ntmps130
  go_wp2
  go_ret
  exact ⟨ret_int (by first | rfl | exact bits_or_comm _ _ _), rfl⟩

theorem f151_r13 (x : Int) (w : World) : Calls Tryd.prog 151 #[.int .u32 x, .int .i64 (-13)] w fun e w' => e = .returned (.int .u32 (p32_13 x)) ∧ w = w' := by
  have h : bits .and .u64 (IntKind.u64.wrap (-13)) 31 = 19 := by decide +kernel
  go_enter Tryd.func151, Tryd.ntmps151
  go_wp2
  go_ret
  exact ⟨ret_int (by first | rfl | exact bits_or_comm _ _ _), rfl⟩

theorem f130_13 (x : Int) (w : World) : Calls Tryd.prog 130 #[.int .u32 x, .int .u64 13] w fun e w' => e = .returned (.int .u32 (p32_13 x)) ∧ w = w' := by
  go_enter Tryd.func130, Tryd.ntmps130
  go_wp2
  go_ret
  exact ⟨ret_int (by first | rfl | exact bits_or_comm _ _ _), rfl⟩

theorem f151_r22 (x : Int) (w : World) : Calls Tryd.prog 151 #[.int .u32 x, .int .i64 (-22)] w fun e w' => e = .returned (.int .u32 (p32_22 x)) ∧ w = w' := by
  have h : bits .and .u64 (IntKind.u64.wrap (-22)) 31 = 10 := by decide +kernel
  go_enter Tryd.func151, Tryd.ntmps151
  go_wp2
  go_ret
  exact ⟨ret_int (by first | rfl | exact bits_or_comm _ _ _), rfl⟩

theorem f130_22 (x : Int) (w : World) : Calls Tryd.prog 130 #[.int .u32 x, .int .u64 22] w fun e w' => e = .returned (.int .u32 (p32_22 x)) ∧ w = w' := by
  go_enter Tryd.func130, Tryd.ntmps130
  go_wp2
  go_ret
  exact ⟨ret_int (by first | rfl | exact bits_or_comm _ _ _), rfl⟩

theorem f151_l1 (x : Int) (w : World) : Calls Tryd.prog 151 #[.int .u32 x, .int .i64 1] w fun e w' => e = .returned (.int .u32 (q32_1 x)) ∧ w = w' := by
  have h : bits .and .u64 1 31 = 1 := by decide +kernel
  go_enter Tryd.func151, Tryd.ntmps151
  go_wp2
  go_ret
  exact ⟨ret_int (by first | rfl | exact bits_or_comm _ _ _), rfl⟩

theorem f127_1 (x : Int) (w : World) : Calls Tryd.prog 127 #[.int .u32 x, .int .u64 1] w fun e w' => e = .returned (.int .u32 (q32_1 x)) ∧ w = w' := by
  go_enter Tryd.func127, Tryd.ntmps127
  go_wp2
  go_ret
  exact ⟨ret_int (by first | rfl | exact bits_or_comm _ _ _), rfl⟩

theorem f151_l5 (x : Int) (w : World) : Calls Tryd.prog 151 #[.int .u32 x, .int .i64 5] w fun e w' => e = .returned (.int .u32 (q32_5 x)) ∧ w = w' := by
  have h : bits .and .u64 5 31 = 5 := by decide +kernel
  go_enter Tryd.func151, Tryd.ntmps151
  go_wp2
  go_ret
  exact ⟨ret_int (by first | rfl | exact bits_or_comm _ _ _), rfl⟩

theorem f127_5 (x : Int) (w : World) : Calls Tryd.prog 127 #[.int .u32 x, .int .u64 5] w fun e w' => e = .returned (.int .u32 (q32_5 x)) ∧ w = w' := by
  go_enter Tryd.func127, Tryd.ntmps127
  go_wp2
  go_ret
  exact ⟨ret_int (by first | rfl | exact bits_or_comm _ _ _), rfl⟩

theorem f151_l30 (x : Int) (w : World) : Calls Tryd.prog 151 #[.int .u32 x, .int .i64 30] w fun e w' => e = .returned (.int .u32 (q32_30 x)) ∧ w = w' := by
  have h : bits .and .u64 30 31 = 30 := by decide +kernel
  go_enter Tryd.func151, Tryd.ntmps151
  go_wp2
  go_ret
  exact ⟨ret_int (by first | rfl | exact bits_or_comm _ _ _), rfl⟩

theorem f127_30 (x : Int) (w : World) : Calls Tryd.prog 127 #[.int .u32 x, .int .u64 30] w fun e w' => e = .returned (.int .u32 (q32_30 x)) ∧ w = w' := by
  go_enter Tryd.func127, Tryd.ntmps127
  go_wp2
  go_ret
  exact ⟨ret_int (by first | rfl | exact bits_or_comm _ _ _), rfl⟩

theorem f152_r1 (x : Int) (w : World) : Calls Tryd.prog 152 #[.int .u64 x, .int .i64 (-1)] w fun e w' => e = .returned (.int .u64 (p64_1 x)) ∧ w = w' := by
  have h : bits .and .u64 (IntKind.u64.wrap (-1)) 63 = 63 := by decide +kernel
  go_enter Tryd.func152, Tryd.ntmps152
  go_wp2
  go_ret
  exact ⟨ret_int (by first | rfl | exact bits_or_comm _ _ _), rfl⟩

theorem f132_1 (x : Int) (w : World) : Calls Tryd.prog 132 #[.int .u64 x, .int .u64 1] w fun e w' => e = .returned (.int .u64 (p64_1 x)) ∧ w = w' := by
  go_enter Tryd.func132, Tryd.ntmps132
  go_wp2
  go_ret
  exact ⟨ret_int (by first | rfl | exact bits_or_comm _ _ _), rfl⟩

theorem f152_r8 (x : Int) (w : World) : Calls Tryd.prog 152 #[.int .u64 x, .int .i64 (-8)] w fun e w' => e = .returned (.int .u64 (p64_8 x)) ∧ w = w' := by
  have h : bits .and .u64 (IntKind.u64.wrap (-8)) 63 = 56 := by decide +kernel
  go_enter Tryd.func152, Tryd.ntmps152
  go_wp2
  go_ret
  exact ⟨ret_int (by first | rfl | exact bits_or_comm _ _ _), rfl⟩

theorem f132_8 (x : Int) (w : World) : Calls Tryd.prog 132 #[.int .u64 x, .int .u64 8] w fun e w' => e = .returned (.int .u64 (p64_8 x)) ∧ w = w' := by
  go_enter Tryd.func132, Tryd.ntmps132
  go_wp2
  go_ret
  exact ⟨ret_int (by first | rfl | exact bits_or_comm _ _ _), rfl⟩

theorem f152_r19 (x : Int) (w : World) : Calls Tryd.prog 152 #[.int .u64 x, .int .i64 (-19)] w fun e w' => e = .returned (.int .u64 (p64_19 x)) ∧ w = w' := by
  have h : bits .and .u64 (IntKind.u64.wrap (-19)) 63 = 45 := by decide +kernel
  go_enter Tryd.func152, Tryd.ntmps152
  go_wp2
  go_ret
  exact ⟨ret_int (by first | rfl | exact bits_or_comm _ _ _), rfl⟩

theorem f132_19 (x : Int) (w : World) : Calls Tryd.prog 132 #[.int .u64 x, .int .u64 19] w fun e w' => e = .returned (.int .u64 (p64_19 x)) ∧ w = w' := by
  go_enter Tryd.func132, Tryd.ntmps132
  go_wp2
  go_ret
  exact ⟨ret_int (by first | rfl | exact bits_or_comm _ _ _), rfl⟩

theorem f152_r61 (x : Int) (w : World) : Calls Tryd.prog 152 #[.int .u64 x, .int .i64 (-61)] w fun e w' => e = .returned (.int .u64 (p64_61 x)) ∧ w = w' := by
  have h : bits .and .u64 (IntKind.u64.wrap (-61)) 63 = 3 := by decide +kernel
  go_enter Tryd.func152, Tryd.ntmps152
  go_wp2
  go_ret
  exact ⟨ret_int (by first | rfl | exact bits_or_comm _ _ _), rfl⟩

theorem f132_61 (x : Int) (w : World) : Calls Tryd.prog 132 #[.int .u64 x, .int .u64 61] w fun e w' => e = .returned (.int .u64 (p64_61 x)) ∧ w = w' := by
  go_enter Tryd.func132, Tryd.ntmps132
  go_wp2
  go_ret
  exact ⟨ret_int (by first | rfl | exact bits_or_comm _ _ _), rfl⟩

theorem f152_r14 (x : Int) (w : World) : Calls Tryd.prog 152 #[.int .u64 x, .int .i64 (-14)] w fun e w' => e = .returned (.int .u64 (p64_14 x)) ∧ w = w' := by
  have h : bits .and .u64 (IntKind.u64.wrap (-14)) 63 = 50 := by decide +kernel
  go_enter Tryd.func152, Tryd.ntmps152
  go_wp2
  go_ret
  exact ⟨ret_int (by first | rfl | exact bits_or_comm _ _ _), rfl⟩

theorem f132_14 (x : Int) (w : World) : Calls Tryd.prog 132 #[.int .u64 x, .int .u64 14] w fun e w' => e = .returned (.int .u64 (p64_14 x)) ∧ w = w' := by
  go_enter Tryd.func132, Tryd.ntmps132
  go_wp2
  go_ret
  exact ⟨ret_int (by first | rfl | exact bits_or_comm _ _ _), rfl⟩

theorem f152_r18 (x : Int) (w : World) : Calls Tryd.prog 152 #[.int .u64 x, .int .i64 (-18)] w fun e w' => e = .returned (.int .u64 (p64_18 x)) ∧ w = w' := by
  have h : bits .and .u64 (IntKind.u64.wrap (-18)) 63 = 46 := by decide +kernel
  go_enter Tryd.func152, Tryd.ntmps152
  go_wp2
  go_ret
  exact ⟨ret_int (by first | rfl | exact bits_or_comm _ _ _), rfl⟩

theorem f132_18 (x : Int) (w : World) : Calls Tryd.prog 132 #[.int .u64 x, .int .u64 18] w fun e w' => e = .returned (.int .u64 (p64_18 x)) ∧ w = w' := by
  go_enter Tryd.func132, Tryd.ntmps132
  go_wp2
  go_ret
  exact ⟨ret_int (by first | rfl | exact bits_or_comm _ _ _), rfl⟩

theorem f152_r41 (x : Int) (w : World) : Calls Tryd.prog 152 #[.int .u64 x, .int .i64 (-41)] w fun e w' => e = .returned (.int .u64 (p64_41 x)) ∧ w = w' := by
  have h : bits .and .u64 (IntKind.u64.wrap (-41)) 63 = 23 := by decide +kernel
  go_enter Tryd.func152, Tryd.ntmps152
  go_wp2
  go_ret
  exact ⟨ret_int (by first | rfl | exact bits_or_comm _ _ _), rfl⟩

theorem f132_41 (x : Int) (w : World) : Calls Tryd.prog 132 #[.int .u64 x, .int .u64 41] w fun e w' => e = .returned (.int .u64 (p64_41 x)) ∧ w = w' := by
  go_enter Tryd.func132, Tryd.ntmps132
  go_wp2
  go_ret
  exact ⟨ret_int (by first | rfl | exact bits_or_comm _ _ _), rfl⟩

theorem f152_r28 (x : Int) (w : World) : Calls Tryd.prog 152 #[.int .u64 x, .int .i64 (-28)] w fun e w' => e = .returned (.int .u64 (p64_28 x)) ∧ w = w' := by
  have h : bits .and .u64 (IntKind.u64.wrap (-28)) 63 = 36 := by decide +kernel
  go_enter Tryd.func152, Tryd.ntmps152
  go_wp2
  go_ret
  exact ⟨ret_int (by first | rfl | exact bits_or_comm _ _ _), rfl⟩

theorem f132_28 (x : Int) (w : World) : Calls Tryd.prog 132 #[.int .u64 x, .int .u64 28] w fun e w' => e = .returned (.int .u64 (p64_28 x)) ∧ w = w' := by
  go_enter Tryd.func132, Tryd.ntmps132
  go_wp2
  go_ret
  exact ⟨ret_int (by first | rfl | exact bits_or_comm _ _ _), rfl⟩

theorem f152_r34 (x : Int) (w : World) : Calls Tryd.prog 152 #[.int .u64 x, .int .i64 (-34)] w fun e w' => e = .returned (.int .u64 (p64_34 x)) ∧ w = w' := by
  have h : bits .and .u64 (IntKind.u64.wrap (-34)) 63 = 30 := by decide +kernel
  go_enter Tryd.func152, Tryd.ntmps152
  go_wp2
  go_ret
  exact ⟨ret_int (by first | rfl | exact bits_or_comm _ _ _), rfl⟩

theorem f132_34 (x : Int) (w : World) : Calls Tryd.prog 132 #[.int .u64 x, .int .u64 34] w fun e w' => e = .returned (.int .u64 (p64_34 x)) ∧ w = w' := by
  go_enter Tryd.func132, Tryd.ntmps132
  go_wp2
  go_ret
  exact ⟨ret_int (by first | rfl | exact bits_or_comm _ _ _), rfl⟩

theorem f152_r39 (x : Int) (w : World) : Calls Tryd.prog 152 #[.int .u64 x, .int .i64 (-39)] w fun e w' => e = .returned (.int .u64 (p64_39 x)) ∧ w = w' := by
  have h : bits .and .u64 (IntKind.u64.wrap (-39)) 63 = 25 := by decide +kernel
  go_enter Tryd.func152, Tryd.ntmps152
  go_wp2
  go_ret
  exact ⟨ret_int (by first | rfl | exact bits_or_comm _ _ _), rfl⟩

theorem f132_39 (x : Int) (w : World) : Calls Tryd.prog 132 #[.int .u64 x, .int .u64 39] w fun e w' => e = .returned (.int .u64 (p64_39 x)) ∧ w = w' := by
  go_enter Tryd.func132, Tryd.ntmps132
  go_wp2
  go_ret
  exact ⟨ret_int (by first | rfl | exact bits_or_comm _ _ _), rfl⟩


end Go.Proofs.YtladijfaeieidaaDoor