/- Contracts of the functions that read a number out of bytes, the highest one first. Condition: the slice is long enough, and holds bytes. -/
import Derived.Test.YtladijfaeieidaaDoorC1
namespace Go.Proofs.YtladijfaeieidaaDoor
open Go.RowKit

/-- The numbers are bytes. -/
def Byt (l : List Int) : Prop := ∀ x ∈ l, 0 ≤ x ∧ x < 256
/-- The number that bytes are, the highest one first. -/
def be (l : List Int) : Int := l.foldl (fun n b => 256 * n + b) 0

theorem Byt.at {l : List Int} (h : Byt l) (i : Nat) (hi : i < l.length) : 0 ≤ l.getD i 0 ∧ l.getD i 0 < 256 := by
  have e : l.getD i 0 = l[i] := by simp [List.getD, hi]
  rw [e]; exact h _ (List.getElem_mem hi)
theorem Byt.sub {l : List Int} (h : Byt l) (a b : Nat) : Byt ((l.drop a).take b) := fun x hx => h x (List.mem_of_mem_drop (List.mem_of_mem_take hx))
theorem Byt.take {l : List Int} (h : Byt l) (b : Nat) : Byt (l.take b) := fun x hx => h x (List.mem_of_mem_take hx)
theorem Byt.drop {l : List Int} (h : Byt l) (b : Nat) : Byt (l.drop b) := fun x hx => h x (List.mem_of_mem_drop hx)
theorem Byt.append {l m : List Int} (h : Byt l) (k : Byt m) : Byt (l ++ m) := fun x hx => (List.mem_append.1 hx).elim (h x) (k x)
theorem Byt.nil : Byt [] := fun _ h => by cases h

theorem uwraps {k : IntKind} (hk : k.signed = false) (n : Int) (h0 : 0 ≤ n) (h1 : n < 2 ^ k.bits) : k.wrap n = n := by
  unfold IntKind.wrap
  simp only [hk, Bool.false_and]
  simpa using Int.emod_eq_of_lt h0 h1

theorem get32_cells (b off c n : Nat) (x0 x1 x2 x3 : Int) (p0 : 0 ≤ x0) (q0 : x0 < 256) (p1 : 0 ≤ x1) (q1 : x1 < 256) (p2 : 0 ≤ x2) (q2 : x2 < 256) (p3 : 0 ≤ x3) (q3 : x3 < 256) (w : World) (hn : 4 ≤ n) (h0 : w.cell? ⟨b, off, none⟩ = some (.int .u8 x0)) (h1 : w.cell? ⟨b, off + 1, none⟩ = some (.int .u8 x1)) (h2 : w.cell? ⟨b, off + 2, none⟩ = some (.int .u8 x2)) (h3 : w.cell? ⟨b, off + 3, none⟩ = some (.int .u8 x3)) :
    Calls Tryd.prog 139 #[.slice (some ⟨b, off, none⟩) n c] w fun e w' => e = .returned (.int .u32 (x0 * 16777216 + x1 * 65536 + x2 * 256 + x3)) ∧ ∃ nq, w' = w.drewN nq := by
  have l0 : (0 : Int) < n := by omega
  have l1 : (1 : Int) < n := by omega
  have l2 : (2 : Int) < n := by omega
  have l3 : (3 : Int) < n := by omega
  have e1 : bits .or .u32 (x0 * 16777216) (x1 * 65536) = x0 * 16777216 + x1 * 65536 := bits_join .u32 32 (by decide) (uwraps (k := .u32) rfl) 24 (x0 * 16777216) (x1 * 65536) (by omega) (by omega) (by omega) (by omega) (by omega) (by omega)
  have e2 : bits .or .u32 (x0 * 16777216 + x1 * 65536) (x2 * 256) = x0 * 16777216 + x1 * 65536 + x2 * 256 := bits_join .u32 32 (by decide) (uwraps (k := .u32) rfl) 16 (x0 * 16777216 + x1 * 65536) (x2 * 256) (by omega) (by omega) (by omega) (by omega) (by omega) (by omega)
  have e3 : bits .or .u32 (x0 * 16777216 + x1 * 65536 + x2 * 256) (x3) = x0 * 16777216 + x1 * 65536 + x2 * 256 + x3 := bits_join .u32 32 (by decide) (uwraps (k := .u32) rfl) 8 (x0 * 16777216 + x1 * 65536 + x2 * 256) (x3) (by omega) (by omega) (by omega) (by omega) (by omega) (by omega)
  go_enter Tryd.func139, Tryd.ntmps139
  go_wp2
  go_quiet (fail)
  go_wp2
  go_ret
  refine ⟨ret_int ?_, _, rfl⟩
  rfl

theorem word_cells (b off c n : Nat) (x0 x1 x2 x3 : Int) (p0 : 0 ≤ x0) (q0 : x0 < 256) (p1 : 0 ≤ x1) (q1 : x1 < 256) (p2 : 0 ≤ x2) (q2 : x2 < 256) (p3 : 0 ≤ x3) (q3 : x3 < 256) (w : World) (hn : 4 ≤ n) (h0 : w.cell? ⟨b, off, none⟩ = some (.int .u8 x0)) (h1 : w.cell? ⟨b, off + 1, none⟩ = some (.int .u8 x1)) (h2 : w.cell? ⟨b, off + 2, none⟩ = some (.int .u8 x2)) (h3 : w.cell? ⟨b, off + 3, none⟩ = some (.int .u8 x3)) :
    Calls Tryd.prog 126 #[.slice (some ⟨b, off, none⟩) n c] w fun e w' => e = .returned (.int .u32 (x0 * 16777216 + x1 * 65536 + x2 * 256 + x3)) ∧ ∃ nq, w' = w.drewN nq := by
  have l0 : (0 : Int) < n := by omega
  have l1 : (1 : Int) < n := by omega
  have l2 : (2 : Int) < n := by omega
  have l3 : (3 : Int) < n := by omega
  have e1 : bits .or .u32 (x0 * 16777216) (x1 * 65536) = x0 * 16777216 + x1 * 65536 := bits_join .u32 32 (by decide) (uwraps (k := .u32) rfl) 24 (x0 * 16777216) (x1 * 65536) (by omega) (by omega) (by omega) (by omega) (by omega) (by omega)
  have e2 : bits .or .u32 (x0 * 16777216 + x1 * 65536) (x2 * 256) = x0 * 16777216 + x1 * 65536 + x2 * 256 := bits_join .u32 32 (by decide) (uwraps (k := .u32) rfl) 16 (x0 * 16777216 + x1 * 65536) (x2 * 256) (by omega) (by omega) (by omega) (by omega) (by omega) (by omega)
  have e3 : bits .or .u32 (x0 * 16777216 + x1 * 65536 + x2 * 256) (x3) = x0 * 16777216 + x1 * 65536 + x2 * 256 + x3 := bits_join .u32 32 (by decide) (uwraps (k := .u32) rfl) 8 (x0 * 16777216 + x1 * 65536 + x2 * 256) (x3) (by omega) (by omega) (by omega) (by omega) (by omega) (by omega)
  go_enter Tryd.func126, Tryd.ntmps126
  go_wp2
  go_quiet (fail)
  go_wp2
  go_ret
  refine ⟨ret_int ?_, _, rfl⟩
  rfl

theorem get64_cells (b off c n : Nat) (x0 x1 x2 x3 x4 x5 x6 x7 : Int) (p0 : 0 ≤ x0) (q0 : x0 < 256) (p1 : 0 ≤ x1) (q1 : x1 < 256) (p2 : 0 ≤ x2) (q2 : x2 < 256) (p3 : 0 ≤ x3) (q3 : x3 < 256) (p4 : 0 ≤ x4) (q4 : x4 < 256) (p5 : 0 ≤ x5) (q5 : x5 < 256) (p6 : 0 ≤ x6) (q6 : x6 < 256) (p7 : 0 ≤ x7) (q7 : x7 < 256) (w : World) (hn : 8 ≤ n) (h0 : w.cell? ⟨b, off, none⟩ = some (.int .u8 x0)) (h1 : w.cell? ⟨b, off + 1, none⟩ = some (.int .u8 x1)) (h2 : w.cell? ⟨b, off + 2, none⟩ = some (.int .u8 x2)) (h3 : w.cell? ⟨b, off + 3, none⟩ = some (.int .u8 x3)) (h4 : w.cell? ⟨b, off + 4, none⟩ = some (.int .u8 x4)) (h5 : w.cell? ⟨b, off + 5, none⟩ = some (.int .u8 x5)) (h6 : w.cell? ⟨b, off + 6, none⟩ = some (.int .u8 x6)) (h7 : w.cell? ⟨b, off + 7, none⟩ = some (.int .u8 x7)) :
    Calls Tryd.prog 140 #[.slice (some ⟨b, off, none⟩) n c] w fun e w' => e = .returned (.int .u64 (x0 * 72057594037927936 + x1 * 281474976710656 + x2 * 1099511627776 + x3 * 4294967296 + x4 * 16777216 + x5 * 65536 + x6 * 256 + x7)) ∧ ∃ nq, w' = w.drewN nq := by
  have l0 : (0 : Int) < n := by omega
  have l1 : (1 : Int) < n := by omega
  have l2 : (2 : Int) < n := by omega
  have l3 : (3 : Int) < n := by omega
  have l4 : (4 : Int) < n := by omega
  have l5 : (5 : Int) < n := by omega
  have l6 : (6 : Int) < n := by omega
  have l7 : (7 : Int) < n := by omega
  have e1 : bits .or .u64 (x0 * 72057594037927936) (x1 * 281474976710656) = x0 * 72057594037927936 + x1 * 281474976710656 := bits_join .u64 64 (by decide) (uwraps (k := .u64) rfl) 56 (x0 * 72057594037927936) (x1 * 281474976710656) (by omega) (by omega) (by omega) (by omega) (by omega) (by omega)
  have e2 : bits .or .u64 (x0 * 72057594037927936 + x1 * 281474976710656) (x2 * 1099511627776) = x0 * 72057594037927936 + x1 * 281474976710656 + x2 * 1099511627776 := bits_join .u64 64 (by decide) (uwraps (k := .u64) rfl) 48 (x0 * 72057594037927936 + x1 * 281474976710656) (x2 * 1099511627776) (by omega) (by omega) (by omega) (by omega) (by omega) (by omega)
  have e3 : bits .or .u64 (x0 * 72057594037927936 + x1 * 281474976710656 + x2 * 1099511627776) (x3 * 4294967296) = x0 * 72057594037927936 + x1 * 281474976710656 + x2 * 1099511627776 + x3 * 4294967296 := bits_join .u64 64 (by decide) (uwraps (k := .u64) rfl) 40 (x0 * 72057594037927936 + x1 * 281474976710656 + x2 * 1099511627776) (x3 * 4294967296) (by omega) (by omega) (by omega) (by omega) (by omega) (by omega)
  have e4 : bits .or .u64 (x0 * 72057594037927936 + x1 * 281474976710656 + x2 * 1099511627776 + x3 * 4294967296) (x4 * 16777216) = x0 * 72057594037927936 + x1 * 281474976710656 + x2 * 1099511627776 + x3 * 4294967296 + x4 * 16777216 := bits_join .u64 64 (by decide) (uwraps (k := .u64) rfl) 32 (x0 * 72057594037927936 + x1 * 281474976710656 + x2 * 1099511627776 + x3 * 4294967296) (x4 * 16777216) (by omega) (by omega) (by omega) (by omega) (by omega) (by omega)
  have e5 : bits .or .u64 (x0 * 72057594037927936 + x1 * 281474976710656 + x2 * 1099511627776 + x3 * 4294967296 + x4 * 16777216) (x5 * 65536) = x0 * 72057594037927936 + x1 * 281474976710656 + x2 * 1099511627776 + x3 * 4294967296 + x4 * 16777216 + x5 * 65536 := bits_join .u64 64 (by decide) (uwraps (k := .u64) rfl) 24 (x0 * 72057594037927936 + x1 * 281474976710656 + x2 * 1099511627776 + x3 * 4294967296 + x4 * 16777216) (x5 * 65536) (by omega) (by omega) (by omega) (by omega) (by omega) (by omega)
  have e6 : bits .or .u64 (x0 * 72057594037927936 + x1 * 281474976710656 + x2 * 1099511627776 + x3 * 4294967296 + x4 * 16777216 + x5 * 65536) (x6 * 256) = x0 * 72057594037927936 + x1 * 281474976710656 + x2 * 1099511627776 + x3 * 4294967296 + x4 * 16777216 + x5 * 65536 + x6 * 256 := bits_join .u64 64 (by decide) (uwraps (k := .u64) rfl) 16 (x0 * 72057594037927936 + x1 * 281474976710656 + x2 * 1099511627776 + x3 * 4294967296 + x4 * 16777216 + x5 * 65536) (x6 * 256) (by omega) (by omega) (by omega) (by omega) (by omega) (by omega)
  have e7 : bits .or .u64 (x0 * 72057594037927936 + x1 * 281474976710656 + x2 * 1099511627776 + x3 * 4294967296 + x4 * 16777216 + x5 * 65536 + x6 * 256) (x7) = x0 * 72057594037927936 + x1 * 281474976710656 + x2 * 1099511627776 + x3 * 4294967296 + x4 * 16777216 + x5 * 65536 + x6 * 256 + x7 := bits_join .u64 64 (by decide) (uwraps (k := .u64) rfl) 8 (x0 * 72057594037927936 + x1 * 281474976710656 + x2 * 1099511627776 + x3 * 4294967296 + x4 * 16777216 + x5 * 65536 + x6 * 256) (x7) (by omega) (by omega) (by omega) (by omega) (by omega) (by omega)
  go_enter Tryd.func140, Tryd.ntmps140
  go_wp2
  go_quiet (fail)
  go_wp2
  go_ret
  refine ⟨ret_int ?_, _, rfl⟩
  rfl

theorem get16_cells (b off c n : Nat) (x0 x1 : Int) (p0 : 0 ≤ x0) (q0 : x0 < 256) (p1 : 0 ≤ x1) (q1 : x1 < 256) (w : World) (hn : 2 ≤ n) (h0 : w.cell? ⟨b, off, none⟩ = some (.int .u8 x0)) (h1 : w.cell? ⟨b, off + 1, none⟩ = some (.int .u8 x1)) :
    Calls Tryd.prog 141 #[.slice (some ⟨b, off, none⟩) n c] w fun e w' => e = .returned (.int .u16 (x0 * 256 + x1)) ∧ ∃ nq, w' = w.drewN nq := by
  have l0 : (0 : Int) < n := by omega
  have l1 : (1 : Int) < n := by omega
  have e1 : bits .or .u16 (x0 * 256) (x1) = x0 * 256 + x1 := bits_join .u16 16 (by decide) (uwraps (k := .u16) rfl) 8 (x0 * 256) (x1) (by omega) (by omega) (by omega) (by omega) (by omega) (by omega)
  go_enter Tryd.func141, Tryd.ntmps141
  go_wp2
  go_quiet (fail)
  go_wp2
  go_ret
  refine ⟨ret_int ?_, _, rfl⟩
  rfl

theorem be_4 (l : List Int) (h : 4 ≤ l.length) : be (l.take 4) = l.getD 0 0 * 16777216 + l.getD 1 0 * 65536 + l.getD 2 0 * 256 + l.getD 3 0 := by
  match l, h with
  | xa :: xb :: xc :: xd :: t, _ => simp [be]; omega

theorem get32 {a : Option Addr} {n c : Nat} {l : List Int} {w : World} (h : Sv w 5 1 a n c (bv l)) (hl : l.length = n) (hn : 4 ≤ n) (hb : Byt l) :
    Calls Tryd.prog 139 #[.slice a n c] w fun e w' => e = .returned (.int .u32 (be (l.take 4))) ∧ ∃ nq, w' = w.drewN nq := by
  obtain ⟨b, off, rfl⟩ := h.addr (by omega)
  rw [be_4 l (by omega)]
  have B := fun i (hi : i < 4) => hb.at i (by omega)
  have C := fun i (hi : i < 4) => h.cell (getElem?_bv l i (by omega))
  exact get32_cells b off c n _ _ _ _ (B 0 (by omega)).1 (B 0 (by omega)).2 (B 1 (by omega)).1 (B 1 (by omega)).2 (B 2 (by omega)).1 (B 2 (by omega)).2 (B 3 (by omega)).1 (B 3 (by omega)).2 w hn (C 0 (by omega)) (C 1 (by omega)) (C 2 (by omega)) (C 3 (by omega))

theorem word {a : Option Addr} {n c : Nat} {l : List Int} {w : World} (h : Sv w 5 1 a n c (bv l)) (hl : l.length = n) (hn : 4 ≤ n) (hb : Byt l) :
    Calls Tryd.prog 126 #[.slice a n c] w fun e w' => e = .returned (.int .u32 (be (l.take 4))) ∧ ∃ nq, w' = w.drewN nq := by
  obtain ⟨b, off, rfl⟩ := h.addr (by omega)
  rw [be_4 l (by omega)]
  have B := fun i (hi : i < 4) => hb.at i (by omega)
  have C := fun i (hi : i < 4) => h.cell (getElem?_bv l i (by omega))
  exact word_cells b off c n _ _ _ _ (B 0 (by omega)).1 (B 0 (by omega)).2 (B 1 (by omega)).1 (B 1 (by omega)).2 (B 2 (by omega)).1 (B 2 (by omega)).2 (B 3 (by omega)).1 (B 3 (by omega)).2 w hn (C 0 (by omega)) (C 1 (by omega)) (C 2 (by omega)) (C 3 (by omega))

theorem be_8 (l : List Int) (h : 8 ≤ l.length) : be (l.take 8) = l.getD 0 0 * 72057594037927936 + l.getD 1 0 * 281474976710656 + l.getD 2 0 * 1099511627776 + l.getD 3 0 * 4294967296 + l.getD 4 0 * 16777216 + l.getD 5 0 * 65536 + l.getD 6 0 * 256 + l.getD 7 0 := by
  match l, h with
  | xa :: xb :: xc :: xd :: xe :: xf :: xg :: xh :: t, _ => simp [be]; omega

theorem get64 {a : Option Addr} {n c : Nat} {l : List Int} {w : World} (h : Sv w 5 1 a n c (bv l)) (hl : l.length = n) (hn : 8 ≤ n) (hb : Byt l) :
    Calls Tryd.prog 140 #[.slice a n c] w fun e w' => e = .returned (.int .u64 (be (l.take 8))) ∧ ∃ nq, w' = w.drewN nq := by
  obtain ⟨b, off, rfl⟩ := h.addr (by omega)
  rw [be_8 l (by omega)]
  have B := fun i (hi : i < 8) => hb.at i (by omega)
  have C := fun i (hi : i < 8) => h.cell (getElem?_bv l i (by omega))
  exact get64_cells b off c n _ _ _ _ _ _ _ _ (B 0 (by omega)).1 (B 0 (by omega)).2 (B 1 (by omega)).1 (B 1 (by omega)).2 (B 2 (by omega)).1 (B 2 (by omega)).2 (B 3 (by omega)).1 (B 3 (by omega)).2 (B 4 (by omega)).1 (B 4 (by omega)).2 (B 5 (by omega)).1 (B 5 (by omega)).2 (B 6 (by omega)).1 (B 6 (by omega)).2 (B 7 (by omega)).1 (B 7 (by omega)).2 w hn (C 0 (by omega)) (C 1 (by omega)) (C 2 (by omega)) (C 3 (by omega)) (C 4 (by omega)) (C 5 (by omega)) (C 6 (by omega)) (C 7 (by omega))

theorem be_2 (l : List Int) (h : 2 ≤ l.length) : be (l.take 2) = l.getD 0 0 * 256 + l.getD 1 0 := by
  match l, h with
  | xa :: xb :: t, _ => simp [be]; omega

theorem get16 {a : Option Addr} {n c : Nat} {l : List Int} {w : World} (h : Sv w 5 1 a n c (bv l)) (hl : l.length = n) (hn : 2 ≤ n) (hb : Byt l) :
    Calls Tryd.prog 141 #[.slice a n c] w fun e w' => e = .returned (.int .u16 (be (l.take 2))) ∧ ∃ nq, w' = w.drewN nq := by
  obtain ⟨b, off, rfl⟩ := h.addr (by omega)
  rw [be_2 l (by omega)]
  have B := fun i (hi : i < 2) => hb.at i (by omega)
  have C := fun i (hi : i < 2) => h.cell (getElem?_bv l i (by omega))
  exact get16_cells b off c n _ _ (B 0 (by omega)).1 (B 0 (by omega)).2 (B 1 (by omega)).1 (B 1 (by omega)).2 w hn (C 0 (by omega)) (C 1 (by omega))

end Go.Proofs.YtladijfaeieidaaDoor