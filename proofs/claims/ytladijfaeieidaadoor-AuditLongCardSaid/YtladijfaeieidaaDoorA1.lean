/- Contracts: the audit's lines, of the program and of the reference. Conditions: lengths that an append may come to. -/
import Derived.Test.YtladijfaeieidaaDoorD8
import Derived.Deep.RegionHeld3
import Derived.Deep.RegionWith
import Derived.Deep.Cut
namespace Go.Proofs.YtladijfaeieidaaDoor
open Go.RowKit

/-- The 20 bytes of a line ahead of its hash. -/
def body (q t f r s : Int) : List Int := en4 q ++ en8 t ++ en2 f ++ en4 r ++ en2 s
/-- A line behind a hash. -/
def lineOf (hd : List Int) (q t f r s : Int) : List Int := body q t f r s ++ hash 3 (hd ++ body q t f r s)
theorem length_body (q t f r s : Int) : (body q t f r s).length = 20 := by simp [body, en4, en8, en2]
theorem kd3 : Kd 3 := ⟨by omega, by omega⟩
theorem length_lineOf (hd : List Int) (q t f r s : Int) : (lineOf hd q t f r s).length = 52 := by
  rw [lineOf, List.length_append, length_body, hash_len kd3]; rfl
theorem byt_en2 (x : Int) : Byt (en2 x) := by
  intro y hy
  simp only [en2, List.mem_cons, List.not_mem_nil, or_false] at hy
  omega
theorem byt_body (q t f r s : Int) : Byt (body q t f r s) := ((((byt_en4 q).append (byt_en8 t)).append (byt_en2 f)).append (byt_en4 r)).append (byt_en2 s)
theorem byt_lineOf (hd : List Int) (q t f r s : Int) : Byt (lineOf hd q t f r s) := (byt_body q t f r s).append (hash_byt _ _)
theorem en4_w (x : Int) : en4 (IntKind.u32.wrap x) = en4 x := by
  simp only [en4, IntKind.wrap, IntKind.bits, IntKind.signed]
  simp
  omega
theorem en4_m (x : Int) : en4 (x % 4294967296) = en4 x := by
  simp only [en4]
  simp
  omega
theorem en2_w (x : Int) : en2 (IntKind.u16.wrap x) = en2 x := by
  simp only [en2, IntKind.wrap, IntKind.bits, IntKind.signed]
  simp
  omega
theorem en2_m (x : Int) : en2 (x % 65536) = en2 x := by
  simp only [en2]
  simp
  omega
theorem en8_w (x : Int) : en8 (IntKind.u64.wrap x) = en8 x := by
  simp only [en8, IntKind.wrap, IntKind.bits, IntKind.signed]
  simp
  omega
theorem en8_m (x : Int) : en8 (x % 18446744073709551616) = en8 x := by
  simp only [en8]
  simp
  omega
/-- Slices of bytes in a new row. -/
theorem bs_of (w : World) (els : List (Option Addr × Nat × Nat × List Int)) (h : ∀ p ∈ els, Sv w 5 1 p.1 p.2.1 p.2.2.1 (bv p.2.2.2) ∧ Byt p.2.2.2) (hn : els.length ≤ 1000) :
    Bs (w.alloc (.cells (els.map fun p => Value.slice p.1 p.2.1 p.2.2.1).toArray 22)) (some ⟨w.heap.size, 0, none⟩) els.length els.length (els.map fun p => p.2.2.2) := by
  refine ⟨by simp, els.map fun p => Value.slice p.1 p.2.1 p.2.2.1, (own_lit w _ 22 els.length (by simp) (by simp only [maxLen]; omega)).toSv, fun i l hi => ?_⟩
  simp only [List.getElem?_map] at hi ⊢
  cases hp : els[i]? with
  | none => rw [hp] at hi; cases hi
  | some p =>
    rw [hp] at hi
    cases hi
    have hm := h p (List.mem_of_getElem? hp)
    exact ⟨p.1, p.2.1, p.2.2.1, rfl, hm.1.mods (alloc_mods w _) (fun _ _ f => f), hm.2⟩
/-- A slice that grows beside an entry's cells. -/
structure LB (w0 : World) (P0 : Nat) (vs : List Value) (w : World) (a : Option Addr) (n c : Nat) (l : List Int) : Prop where
  row : RB w P0 52 vs
  own : Own w 5 1 a n c (bv l)
  new : New (P0 + 1) a
  mods : Mods Nix w0 w
  low : w0.heap.size ≤ P0
theorem LB.app {w0 : World} {P0 : Nat} {vs : List Value} {w w' : World} {a a' : Option Addr} {n c k c' m : Nat} {l l' : List Int} (h : LB w0 P0 vs w a n c l) (hO : AppOut w w' 5 1 a a' k c' m (bv l')) : LB w0 P0 vs w' a' k c' l' := by
  have h1 := h.row.lt
  have h2 := h.low
  refine ⟨h.row.mods hO.mods (fun ⟨ad, e, hb⟩ => ?_), hO.own, hO.new h.new (by omega), h.mods.trans' hO.mods (fun i hi ⟨ad, e, hb⟩ => ?_), h.low⟩
  · have := h.new ad e; omega
  · have := h.new ad e; omega
/-- The cells of an entry. -/
structure EC (w : World) (P0 : Nat) (q t f r s : Int) : Prop where
  c1 : w.cell? ⟨P0, 1, none⟩ = some (.int .i64 t)
  c2 : w.cell? ⟨P0, 2, none⟩ = some (.int .i64 f)
  c3 : w.cell? ⟨P0, 3, none⟩ = some (.int .i64 r)
  c4 : w.cell? ⟨P0, 4, none⟩ = some (.int .i64 s)
/-- The cells of an entry. -/
def ents (q t f r s : Int) : List Value := [.int .i64 q, .int .i64 t, .int .i64 f, .int .i64 r, .int .i64 s]
theorem ec {w : World} {P0 : Nat} {q t f r s : Int} (h : RB w P0 52 (ents q t f r s)) : EC w P0 q t f r s := ⟨h.cell rfl, h.cell rfl, h.cell rfl, h.cell rfl⟩
theorem f91L {m : Nat} {w0 : World} {P0 : Nat} {q t f r s : Int} {w : World} {a : Option Addr} {n c : Nat} {l : List Int} (h : LB w0 P0 (ents q t f r s) w a n c l) (hm : m = n + 4) (hn : n ≤ 900) (x : Int) :
    Calls Tryd.prog 91 #[.slice a n c, .int .u32 x] w fun e w' => ∃ a' c', e = .returned (.slice a' m c') ∧ LB w0 P0 (ents q t f r s) w' a' m c' (l ++ en4 x) ∧ EC w' P0 q t f r s := by
  subst hm
  refine (f91 h.own (lim_c (by omega)) x).mono ?_
  rintro e w' ⟨a', c', rfl, hO⟩
  have h2 := h.app hO
  exact ⟨a', c', rfl, h2, ec h2.row⟩
theorem f92L {m : Nat} {w0 : World} {P0 : Nat} {q t f r s : Int} {w : World} {a : Option Addr} {n c : Nat} {l : List Int} (h : LB w0 P0 (ents q t f r s) w a n c l) (hm : m = n + 8) (hn : n ≤ 900) (x : Int) :
    Calls Tryd.prog 92 #[.slice a n c, .int .u64 x] w fun e w' => ∃ a' c', e = .returned (.slice a' m c') ∧ LB w0 P0 (ents q t f r s) w' a' m c' (l ++ en8 x) ∧ EC w' P0 q t f r s := by
  subst hm
  refine (f92 h.own (lim_c (by omega)) x).mono ?_
  rintro e w' ⟨a', c', rfl, hO⟩
  have h2 := h.app hO
  exact ⟨a', c', rfl, h2, ec h2.row⟩
theorem f136L {m : Nat} {w0 : World} {P0 : Nat} {q t f r s : Int} {w : World} {a : Option Addr} {n c : Nat} {l : List Int} (h : LB w0 P0 (ents q t f r s) w a n c l) (hm : m = n + 2) (hn : n ≤ 900) (x : Int) :
    Calls Tryd.prog 136 #[.slice a n c, .int .u16 x] w fun e w' => ∃ a' c', e = .returned (.slice a' m c') ∧ LB w0 P0 (ents q t f r s) w' a' m c' (l ++ en2 x) ∧ EC w' P0 q t f r s := by
  subst hm
  refine (f136 h.own (lim_c (by omega)) x).mono ?_
  rintro e w' ⟨a', c', rfl, hO⟩
  have h2 := h.app hO
  exact ⟨a', c', rfl, h2, ec h2.row⟩
set_option maxHeartbeats 2000000 in
theorem f101 (w : World) (x : Option Addr) (nh ch : Nat) (hd : List Int) (hx : Sv w 5 1 x nh ch (bv hd)) (hB : Byt hd) (hl : nh ≤ 500) (hg : GK w) (q q0 t f r s : Int) :
    Calls Tryd.prog 101 #[.slice x nh ch, .int .i64 q, .agg #[.int .i64 q0, .int .i64 t, .int .i64 f, .int .i64 r, .int .i64 s]] w fun e w' => ∃ a' c', e = .returned (.slice a' 52 c') ∧ SumOut w w' a' 52 c' (lineOf hd q t f r s) := by
  have hhl : hd.length = nh := by have := hx.len; simpa [bv] using this
  obtain ⟨P0, hP0⟩ : ∃ P0, Eqn P0 w.heap.size := ⟨_, ⟨rfl⟩⟩
  obtain ⟨W1, hW1⟩ : ∃ W1, Eqn W1 (w.alloc (.cells #[.int .i64 q0, .int .i64 t, .int .i64 f, .int .i64 r, .int .i64 s] 52)) := ⟨_, ⟨rfl⟩⟩
  have hL0 : LB w P0 (ents q0 t f r s) W1 none 0 0 [] := by
    rw [hW1.out, hP0.out]
    exact ⟨RB.new w (ents q0 t f r s) 52, own_nil _, New.none _, alloc_mods _ _, Nat.le_refl _⟩
  have h00 : 0 ≤ 900 := by omega
  have h01 : 4 ≤ 900 := by omega
  have h02 : 12 ≤ 900 := by omega
  have h03 : 14 ≤ 900 := by omega
  have h04 : 18 ≤ 900 := by omega
  have T6 : ∀ {w6 : World} {a6 : Option Addr} {c6 : Nat}, LB w P0 (ents q0 t f r s) w6 a6 20 c6 (body q t f r s) →
      Calls Tryd.prog 25 #[.int .i64 3, .slice (some ⟨w6.heap.size, 0, none⟩) 2 2] (w6.alloc (.cells #[.slice x nh ch, .slice a6 20 c6] 22)) fun e w' => ∃ a' c', e = .returned (.slice a' 32 c') ∧
        Own w' 5 1 a6 20 c6 (bv (body q t f r s)) ∧ Sv w' 5 1 a' 32 c' (bv (hash 3 (hd ++ body q t f r s))) ∧ Mods Nix w w' := by
    intro w6 a6 c6 h6
    have hb := bs_two (hx.mods h6.mods (fun _ _ f => f)) h6.own.toSv hB (byt_body q t f r s)
    have hM6 := alloc_mods w6 (.cells #[.slice x nh ch, .slice a6 20 c6] 22)
    refine (f25 _ 3 kd3 _ 2 2 _ hb (lim_c (by simp [length_body]; omega)) (hg.mods (h6.mods.trans' hM6 (fun _ _ f => f)) (fun f => f))).mono ?_
    rintro e w' ⟨a', c', rfl, hS⟩
    have e9 : [hd, body q t f r s].flatten = hd ++ body q t f r s := by simp
    rw [e9] at hS
    have hM7 := hM6.trans' hS.mods (fun _ _ f => f)
    exact ⟨a', c', rfl, h6.own.mods hM7 (fun _ _ f => f), hS.own.toSv, h6.mods.trans' hM7 (fun _ _ f => f)⟩
  have hL52 : Lim (20 + 32) := lim_c (by omega)
  have eb : Eqn (en4 q ++ en8 t ++ en2 f ++ en4 r ++ en2 s) (body q t f r s) := ⟨rfl⟩
  clear hx hB hhl hg
  go_enter Tryd.func101, Tryd.ntmps101
  go_upto_region 1 with fail
  rw [← hW1.out, ← hP0.out]
  go_wp2_with (first | (go_at_call 91; (with_reducible refine (f91L (m := 4) hL0 rfl h00 _).mono ?_); rintro e w2 ⟨a2, c2, rfl, hL2, hE2⟩; have d2 := hE2.c1) | (go_at_call 92; (with_reducible refine (f92L (m := 12) hL2 rfl h01 _).mono ?_); rintro e w3 ⟨a3, c3, rfl, hL3, hE3⟩; have d3 := hE3.c2) | (go_at_call 136; (with_reducible refine (f136L (m := 14) hL3 rfl h02 _).mono ?_); rintro e w4 ⟨a4, c4, rfl, hL4, hE4⟩; have d4 := hE4.c3) | (go_at_call 91; (with_reducible refine (f91L (m := 18) hL4 rfl h03 _).mono ?_); rintro e w5 ⟨a5, c5, rfl, hL5, hE5⟩; have d5 := hE5.c4) | (go_at_call 136; (with_reducible refine (f136L (m := 20) hL5 rfl h04 _).mono ?_); rintro e w6 ⟨a6, c6, rfl, hL6, hE6⟩; rw [List.nil_append, en4_m, en8_w, en2_w, en4_m, en2_w, eb.out] at hL6; have T7 := T6 hL6) | (go_at_call 25; (with_reducible refine T7.mono ?_); rintro e w7 ⟨a7, c7, rfl, hO7, hS7, hM7⟩) | (at_builtin; with_reducible refine wpList_app rfl (.tmp 31) (.tmp 35) ei22 rfl hO7 hS7 rfl rfl (bv_one _) (lim_app hL52) hL52.maxLen ?_; intro a8 c8 w8 hO8))
  go_ret
  have hz := hL0.mods.size
  refine ⟨a8, c8, rfl, ?_, hO8.new (hL6.new.mono (by have := hP0.out; omega)) hM7.size, hM7.trans' hO8.mods (fun i hi ⟨ad, e, hb⟩ => by have := hL6.new ad e; have := hP0.out; omega)⟩
  have h9 := hO8.own
  rw [← bv_append] at h9
  exact h9
/-- A number's bytes, K of them, the highest first. -/
def encB (n : Int) : Nat → List Int
  | 0 => []
  | k + 1 => encB (n / 256) k ++ [n % 256]
theorem length_encB : ∀ (k : Nat) (n : Int), (encB n k).length = k
  | 0, _ => rfl
  | k + 1, n => by rw [encB, List.length_append, length_encB k]; rfl
theorem byt_encB : ∀ (k : Nat) (n : Int), Byt (encB n k)
  | 0, _ => Byt.nil
  | k + 1, n => (byt_encB k _).append (by intro x hx; simp at hx; omega)
theorem encB2 (n : Int) : encB n 2 = en2 n := by simp [encB, en2]
theorem encB4 (n : Int) : encB n 4 = en4 n := by
  simp only [encB, en4, List.nil_append, List.cons_append]
  simp
  omega
theorem encB8 (n : Int) : encB n 8 = en8 n := by
  simp only [encB, en8, List.nil_append, List.cons_append]
  simp
  omega
theorem set_mid (m : Nat) (v : Int) (S : List Int) : (List.replicate (m + 1) 0 ++ S).set m v = List.replicate m 0 ++ v :: S := by
  rw [List.replicate_succ', List.append_assoc]
  rw [List.set_append_right _ _ (by simp)]
  simp
set_option maxHeartbeats 1000000 in
theorem f137 (w : World) (n : Int) (hn : 0 ≤ n) (hn9 : n ≤ 9223372036854775807) (K : Nat) (hK : K ≤ 8) :
    Calls Tryd.prog 137 #[.int .i64 n, .int .i64 K] w fun e w' => ∃ a', e = .returned (.slice a' K K) ∧ SumOut w w' a' K K (encB n K) := by
  have hKm : K ≤ maxLen := by simp only [maxLen]; omega
  have hK1 : 1 * K ≤ 281474976710656 := by omega
  have hKi : (K : Int) ≤ 8 := by omega
  obtain ⟨B, hB⟩ : ∃ B, Eqn B w.heap.size := ⟨_, ⟨rfl⟩⟩
  go_enter Tryd.func137, Tryd.ntmps137
  go_wp2_with (first | (with_reducible refine wpList_mk rfl (.tmp 7) (.tmp 7) ei22 rfl rfl K rfl rfl rfl rfl hK1 hKm ?_; intro hrow))
  rw [← hB.out]
  go_loopw [0, 6] (fun x i wr => ∃ (m : Nat) (v : Int) (S : List Int), x = .int .i64 v ∧ i = .int .i64 ((m : Int) - 1) ∧ 0 ≤ v ∧ v ≤ 9223372036854775807 ∧ m ≤ K ∧ Eqn (encB v m ++ S) (encB n K) ∧ RB wr B 5 (bv (List.replicate m 0 ++ S)) ∧ Mods Nix w wr) (fun _ i _ => (intOf i + 1).toNat)
  case atStart =>
    refine ⟨K, n, [], rfl, rfl, hn, hn9, Nat.le_refl _, ⟨by simp⟩, ?_, alloc_mods _ _⟩
    rw [hB.out]
    have := RB.new w (bv (List.replicate K 0)) 5
    simpa [bv] using this
  case round =>
    obtain ⟨m, v, S, rfl, rfl, hv, hv9, hm, hE, hR, hM⟩ := hrel
    cases m with
    | zero =>
      have hE' : S = encB n K := by simpa [encB] using hE.out
      subst hE'
      clear hE
      go_wp2_with fail
      go_ret
      refine ⟨_, rfl, ?_, fun ad e => by (cases e; rw [hB.out]; exact Nat.le_refl _), hM⟩
      have h9 : w.heap.size = B := hB.out.symm
      have := Own.row (sz := 1) (n := K) hR.heap (by simp [bv, length_encB]) hKm
      simpa using this
    | succ m =>
      have e1 : ((m + 1 : Nat) : Int) - 1 = (m : Int) := by omega
      rw [e1]
      have hf := hR.free m
      have hc : wr.cell? ⟨B, m, none⟩ = some (.int .u8 0) := hR.cell (by rw [bv, List.map_append, List.map_replicate, List.getElem?_append_left (by simp)]; simp)
      have i1 : (m : Int) < K := by omega
      have i2 : m < K := by omega
      clear hKi hm
      go_wp2_with fail
      go_roundw
      case measure => simp [intOf]
      case rel =>
        refine ⟨m, v / 256, v % 256 :: S, rfl, by go_num, by omega, by omega, by omega, ⟨?_⟩, ?_, hM.setCell (.inr (by rw [hB.out]; exact Nat.le_refl _)) _⟩
        · rw [← hE.out, encB]; simp
        · have h9 := hR.set m (.int .u8 (v % 256))
          rw [bv_set, set_mid] at h9
          exact h9
theorem SumOut.cell {w w' : World} {a : Option Addr} {n c : Nat} {l : List Int} (h : SumOut w w' a n c l) {p : Addr} {v : Value} (hc : w.cell? p = some v) : w'.cell? p = some v := h.mods.cell hc (fun f => f)
theorem SumOut.step {w w' : World} {a b : Option Addr} {n c m d : Nat} {l r : List Int} (h : SumOut w w' a n c l) (hs : Sv w 5 1 b m d (bv r)) : Sv w' 5 1 b m d (bv r) := hs.mods h.mods (fun _ _ f => f)
/-- A number that an int holds and that is not negative. -/
structure Nn (x : Int) : Prop where
  lo : 0 ≤ x
  hi : x ≤ 9223372036854775807
theorem T137_2 {x : Int} (h : Nn x) (w : World) : Calls Tryd.prog 137 #[.int .i64 x, .int .i64 2] w fun e w' => ∃ a', e = .returned (.slice a' 2 2) ∧ SumOut w w' a' 2 2 (en2 x) := by
  rw [← encB2]; exact f137 w x h.lo h.hi 2 (by omega)
theorem T137_4 {x : Int} (h : Nn x) (w : World) : Calls Tryd.prog 137 #[.int .i64 x, .int .i64 4] w fun e w' => ∃ a', e = .returned (.slice a' 4 4) ∧ SumOut w w' a' 4 4 (en4 x) := by
  rw [← encB4]; exact f137 w x h.lo h.hi 4 (by omega)
theorem T137_8 {x : Int} (h : Nn x) (w : World) : Calls Tryd.prog 137 #[.int .i64 x, .int .i64 8] w fun e w' => ∃ a', e = .returned (.slice a' 8 8) ∧ SumOut w w' a' 8 8 (en8 x) := by
  rw [← encB8]; exact f137 w x h.lo h.hi 8 (by omega)
set_option maxHeartbeats 2000000 in
theorem f102 (w : World) (x : Option Addr) (nh ch : Nat) (hd : List Int) (hx : Sv w 5 1 x nh ch (bv hd)) (hB : Byt hd) (hl : nh ≤ 500) (q q0 t f r s : Int) (hq : Nn q) (ht : Nn t) (hf : Nn f) (hr : Nn r) (hs : Nn s) :
    Calls Tryd.prog 102 #[.slice x nh ch, .int .i64 q, .agg #[.int .i64 q0, .int .i64 t, .int .i64 f, .int .i64 r, .int .i64 s]] w fun e w' => ∃ a' c', e = .returned (.slice a' 52 c') ∧ SumOut w w' a' 52 c' (lineOf hd q t f r s) := by
  have hhl : hd.length = nh := by have := hx.len; simpa [bv] using this
  obtain ⟨P0, hP0⟩ : ∃ P0, Eqn P0 w.heap.size := ⟨_, ⟨rfl⟩⟩
  obtain ⟨W1, hW1⟩ : ∃ W1, Eqn W1 (w.alloc (.cells #[.int .i64 q0, .int .i64 t, .int .i64 f, .int .i64 r, .int .i64 s] 52)) := ⟨_, ⟨rfl⟩⟩
  have hR0 : RB W1 P0 52 (ents q0 t f r s) := by
    rw [hW1.out, hP0.out]
    exact RB.new w (ents q0 t f r s) 52
  have hM1 : Mods Nix w W1 := by rw [hW1.out]; exact alloc_mods _ _
  have c01 : W1.cell? ⟨P0, 1, none⟩ = some (.int .i64 t) := hR0.cell rfl
  have c02 : W1.cell? ⟨P0, 2, none⟩ = some (.int .i64 f) := hR0.cell rfl
  have c03 : W1.cell? ⟨P0, 3, none⟩ = some (.int .i64 r) := hR0.cell rfl
  have c04 : W1.cell? ⟨P0, 4, none⟩ = some (.int .i64 s) := hR0.cell rfl
  have c1 : W1.drew.cell? ⟨P0, 1, none⟩ = some (.int .i64 t) := hR0.cell rfl
  have c2 : W1.drew.cell? ⟨P0, 2, none⟩ = some (.int .i64 f) := hR0.cell rfl
  have c3 : W1.drew.cell? ⟨P0, 3, none⟩ = some (.int .i64 r) := hR0.cell rfl
  have c4 : W1.drew.cell? ⟨P0, 4, none⟩ = some (.int .i64 s) := hR0.cell rfl
  have T1 := T137_4 hq
  have T2 := T137_8 ht
  have T3 := T137_2 hf
  have T4 := T137_4 hr
  have T5 := T137_2 hs
  have T100 : ∀ {w1 w2 w3 w4 w5 : World} {a1 a2 a3 a4 a5 : Option Addr}, SumOut W1.drew w1 a1 4 4 (en4 q) → SumOut w1 w2 a2 8 8 (en8 t) → SumOut w2 w3 a3 2 2 (en2 f) → SumOut w3 w4 a4 4 4 (en4 r) → SumOut w4 w5 a5 2 2 (en2 s) →
      Calls Tryd.prog 100 #[.slice (some ⟨w5.heap.size, 0, none⟩) 5 5] (w5.alloc (.cells #[.slice a1 4 4, .slice a2 8 8, .slice a3 2 2, .slice a4 4 4, .slice a5 2 2] 22)) fun e w' => ∃ a' c', e = .returned (.slice a' 20 c') ∧ SumOut W1 w' a' 20 c' (body q t f r s) := by
    intro w1 w2 w3 w4 w5 a1 a2 a3 a4 a5 h1 h2 h3 h4 h5
    have hb := bs_of w5 [(a1, 4, 4, en4 q), (a2, 8, 8, en8 t), (a3, 2, 2, en2 f), (a4, 4, 4, en4 r), (a5, 2, 2, en2 s)] (by
      intro p hp
      simp only [List.mem_cons, List.not_mem_nil, or_false] at hp
      rcases hp with rfl | rfl | rfl | rfl | rfl
      · exact ⟨h5.step (h4.step (h3.step (h2.step h1.own.toSv))), byt_en4 _⟩
      · exact ⟨h5.step (h4.step (h3.step h2.own.toSv)), byt_en8 _⟩
      · exact ⟨h5.step (h4.step h3.own.toSv), byt_en2 _⟩
      · exact ⟨h5.step h4.own.toSv, byt_en4 _⟩
      · exact ⟨h5.own.toSv, byt_en2 _⟩) (by simp)
    have hm := ((((((Mods.refl Nix W1).drew.trans' h1.mods (fun _ _ f => f)).trans' h2.mods (fun _ _ f => f)).trans' h3.mods (fun _ _ f => f)).trans' h4.mods (fun _ _ f => f)).trans' h5.mods (fun _ _ f => f)).alloc (.cells #[.slice a1 4 4, .slice a2 8 8, .slice a3 2 2, .slice a4 4 4, .slice a5 2 2] 22)
    refine (f100 _ _ 5 5 _ hb (lim_c (by simp [en4, en8, en2]))).mono ?_
    rintro e w' ⟨a', k', c', rfl, hk, hS⟩
    have e9 : ([(a1, 4, 4, en4 q), (a2, 8, 8, en8 t), (a3, 2, 2, en2 f), (a4, 4, 4, en4 r), (a5, 2, 2, en2 s)].map (fun p : Option Addr × Nat × Nat × List Int => p.2.2.2)).flatten = body q t f r s := by simp [body]
    rw [e9] at hk hS
    have hk' : k' = 20 := by rw [hk.out, length_body]
    subst hk'
    exact ⟨a', c', rfl, hS.own, hS.fresh.mono hm.size, hm.trans' hS.mods (fun _ _ f => f)⟩
  go_enter Tryd.func102, Tryd.ntmps102
  go_upto_region 1 with fail
  rw [← hW1.out, ← hP0.out]
  go_region_held3 (fun w' => w'.cell? ⟨P0, 1, none⟩ = some (.int .i64 t) ∧ w'.cell? ⟨P0, 2, none⟩ = some (.int .i64 f) ∧ w'.cell? ⟨P0, 3, none⟩ = some (.int .i64 r) ∧ w'.cell? ⟨P0, 4, none⟩ = some (.int .i64 s)) (first | (refine ⟨?_, ?_, ?_, ?_⟩ <;> assumption)) (first | (go_at_call 137; with_reducible refine (T1 _).mono ?_; rintro e w2 ⟨a2, rfl, hS1⟩; have d1 := hS1.cell c1; have d2 := hS1.cell c2; have d3 := hS1.cell c3; have d4 := hS1.cell c4) | (go_at_call 137; with_reducible refine (T2 _).mono ?_; rintro e w3 ⟨a3, rfl, hS2⟩; have f1 := hS2.cell d1; have f2 := hS2.cell d2; have f3 := hS2.cell d3; have f4 := hS2.cell d4) | (go_at_call 137; with_reducible refine (T3 _).mono ?_; rintro e w4 ⟨a4, rfl, hS3⟩; have g1 := hS3.cell f1; have g2 := hS3.cell f2; have g3 := hS3.cell f3; have g4 := hS3.cell f4) | (go_at_call 137; with_reducible refine (T4 _).mono ?_; rintro e w5 ⟨a5, rfl, hS4⟩; have k1 := hS4.cell g1; have k2 := hS4.cell g2; have k3 := hS4.cell g3; have k4 := hS4.cell g4) | (go_at_call 137; with_reducible refine (T5 _).mono ?_; rintro e w6 ⟨a6, rfl, hS5⟩; have j1 := hS5.cell k1; have j2 := hS5.cell k2; have j3 := hS5.cell k3; have j4 := hS5.cell k4; have b1 := (alloc_mods w6 (.cells #[.slice a2 4 4, .slice a3 8 8, .slice a4 2 2, .slice a5 4 4, .slice a6 2 2] 22)).cell j1 (fun f => f); have b2 := (alloc_mods w6 (.cells #[.slice a2 4 4, .slice a3 8 8, .slice a4 2 2, .slice a5 4 4, .slice a6 2 2] 22)).cell j2 (fun f => f); have b3 := (alloc_mods w6 (.cells #[.slice a2 4 4, .slice a3 8 8, .slice a4 2 2, .slice a5 4 4, .slice a6 2 2] 22)).cell j3 (fun f => f); have b4 := (alloc_mods w6 (.cells #[.slice a2 4 4, .slice a3 8 8, .slice a4 2 2, .slice a5 4 4, .slice a6 2 2] 22)).cell j4 (fun f => f); have T7 := T100 hS1 hS2 hS3 hS4 hS5) | (go_at_call 100; with_reducible refine T7.mono ?_; rintro e w7 ⟨a7, c7, rfl, hS7⟩; have m1 := hS7.cell c01; have m2 := hS7.cell c02; have m3 := hS7.cell c03; have m4 := hS7.cell c04))
  simp only [Exit.then]
  go_at_K
  clear c1 c2 c3 c4 d1 d2 d3 d4 f1 f2 f3 f4 g1 g2 g3 g4 k1 k2 k3 k4 j1 j2 j3 j4 b1 b2 b3 b4 m1 m2 m3 m4 c01 c02 c03 c04 T1 T2 T3 T4 T5 T100 T7
  have hM7 := hM1.trans' hS7.mods (fun _ _ f => f)
  have T8 : Calls Tryd.prog 100 #[.slice (some ⟨w7.heap.size, 0, none⟩) 2 2] (w7.alloc (.cells #[.slice x nh ch, .slice a7 20 c7] 22)) fun e w' => ∃ a' k' c', e = .returned (.slice a' k' c') ∧ Eqn k' (hd ++ body q t f r s).length ∧ SumOut w7 w' a' k' c' (hd ++ body q t f r s) := by
    have hb := bs_two (hx.mods hM7 (fun _ _ f => f)) hS7.own.toSv hB (byt_body q t f r s)
    have hm := alloc_mods w7 (.cells #[.slice x nh ch, .slice a7 20 c7] 22)
    refine (f100 _ _ 2 2 _ hb (lim_c (by simp [length_body]; omega))).mono ?_
    rintro e w' ⟨a', k', c', rfl, hk, hS⟩
    have e9 : [hd, body q t f r s].flatten = hd ++ body q t f r s := by simp
    rw [e9] at hk hS
    exact ⟨a', k', c', rfl, hk, hS.own, hS.fresh.mono hm.size, hm.trans' hS.mods (fun _ _ f => f)⟩
  have T9 : ∀ {w8 : World} {a8 : Option Addr} {k8 c8 : Nat}, Eqn k8 (hd ++ body q t f r s).length → SumOut w7 w8 a8 k8 c8 (hd ++ body q t f r s) → Calls Tryd.prog 26 #[.int .i64 3, .slice a8 k8 c8] w8 fun e w' => ∃ a' c', e = .returned (.slice a' 32 c') ∧ Own w' 5 1 a7 20 c7 (bv (body q t f r s)) ∧ Sv w' 5 1 a' 32 c' (bv (hash 3 (hd ++ body q t f r s))) ∧ Mods Nix w w' := by
    intro w8 a8 k8 c8 hk h8
    refine (f26 w8 3 kd3 a8 k8 c8 _ h8.own.toSv (lim_c (by rw [hk.out]; simp [length_body]; omega)) (hB.append (byt_body q t f r s))).mono ?_
    rintro e w' ⟨a', c', rfl, hS⟩
    have hm := h8.mods.trans' hS.mods (fun _ _ f => f)
    exact ⟨a', c', rfl, hS7.own.mods hm (fun _ _ f => f), hS.own.toSv, hM7.trans' hm (fun _ _ f => f)⟩
  have hL52 : Lim (20 + 32) := lim_c (by omega)
  go_wp2_with (first | (go_at_call 100; with_reducible refine T8.mono ?_; rintro e w8 ⟨a8, k8, c8, rfl, hk8, hS8⟩; have T10 := T9 hk8 hS8) | (go_at_call 26; with_reducible refine T10.mono ?_; rintro e w9 ⟨a9, c9, rfl, hO9, hS9, hM9⟩) | (at_builtin; with_reducible refine wpList_app rfl (.tmp 30) (.tmp 31) ei22 rfl hO9 hS9 rfl rfl (bv_one _) (lim_app hL52) hL52.maxLen ?_; intro a10 c10 w10 hO10))
  go_ret
  have hfr : ∀ ad, a7 = some ad → w.heap.size ≤ ad.block := fun ad e => by have := hS7.fresh ad e; have := hM1.size; omega
  refine ⟨a10, c10, rfl, ?_, hO10.new hfr hM9.size, hM9.trans' hO10.mods (fun i hi ⟨ad, e, hb⟩ => by have := hfr ad e; omega)⟩
  have h9 := hO10.own
  rw [← bv_append] at h9
  exact h9
end Go.Proofs.YtladijfaeieidaaDoor
