/- Contracts: PBKDF2 of the program. Conditions: lengths that an append may come to. -/
import Derived.Test.YtladijfaeieidaaDoorC14
import Derived.Deep.RegionHeld3
import Derived.Deep.Cut
namespace Go.Proofs.YtladijfaeieidaaDoor
open Go.RowKit

theorem lim_k {n : Nat} (h : n ≤ 3000) : Lim n := ⟨by omega⟩
/-- Bytes against bytes. -/
def kx (a b : List Int) : List Int := List.zipWith (fun x y => bits .xor .u8 x y) a b
/-- The hashes of one block, one behind the other. -/
def pbU (k : Int) (pin m : List Int) : Nat → List Int
  | 0 => hmac k pin m
  | r + 1 => hmac k pin (pbU k pin m r)
/-- Their sum. -/
def pbT (k : Int) (pin m : List Int) : Nat → List Int
  | 0 => pbU k pin m 0
  | r + 1 => kx (pbT k pin m r) (pbU k pin m (r + 1))
/-- The first t blocks. -/
def pbN (k : Int) (pin salt : List Int) (r : Nat) : Nat → List Int
  | 0 => []
  | t + 1 => pbN k pin salt r t ++ pbT k pin (salt ++ en4 ((t + 1 : Nat) : Int)) (r - 1)
/-- The key from a password. -/
def pbk (k : Int) (pin salt : List Int) (r n : Nat) : List Int := (pbN k pin salt r ((n + hsz k - 1) / hsz k)).take n
theorem hmac_len {k : Int} (hk : Kd k) (l m : List Int) : (hmac k l m).length = hsz k := hash_len hk _
theorem hmac_byt (k : Int) (l m : List Int) : Byt (hmac k l m) := hash_byt _ _
theorem length_pbU {k : Int} (hk : Kd k) (pin m : List Int) : ∀ r, (pbU k pin m r).length = hsz k
  | 0 => hmac_len hk _ _
  | _ + 1 => hmac_len hk _ _
theorem byt_pbU (k : Int) (pin m : List Int) : ∀ r, Byt (pbU k pin m r)
  | 0 => hmac_byt _ _ _
  | _ + 1 => hmac_byt _ _ _
theorem length_kx {a b : List Int} (h : a.length = b.length) : (kx a b).length = a.length := by simp [kx, h]
theorem length_pbT {k : Int} (hk : Kd k) (pin m : List Int) : ∀ r, (pbT k pin m r).length = hsz k
  | 0 => length_pbU hk _ _ 0
  | r + 1 => by rw [pbT, length_kx (by rw [length_pbT hk pin m r, length_pbU hk]), length_pbT hk pin m r]
theorem length_pbN {k : Int} (hk : Kd k) (pin salt : List Int) (r : Nat) : ∀ t, (pbN k pin salt r t).length = hsz k * t
  | 0 => rfl
  | t + 1 => by rw [pbN, List.length_append, length_pbN hk pin salt r t, length_pbT hk, Nat.mul_add, Nat.mul_one]
/-- A key's two states, in the row of their struct. -/
structure Ky (w : World) (P0 b1 b2 : Nat) (a1 a2 : Option Addr) (k : Int) (pin : List Int) : Prop where
  row : RB w P0 118 [.pointer (some ⟨b1, 0, none⟩), .pointer (some ⟨b2, 0, none⟩)]
  h1 : HO w b1 a1 k (kxor 54 (keyOf k pin))
  h2 : HO w b2 a2 k (kxor 92 (keyOf k pin))
  gk : GK w
theorem Ky.mods {w w' : World} {P0 b1 b2 : Nat} {a1 a2 : Option Addr} {k : Int} {pin : List Int} (h : Ky w P0 b1 b2 a1 a2 k pin) (hm : Mods Nix w w') : Ky w' P0 b1 b2 a1 a2 k pin :=
  ⟨h.row.mods hm (fun f => f), h.h1.mods hm (fun f => f) (fun _ _ f => f), h.h2.mods hm (fun f => f) (fun _ _ f => f), h.gk.mods hm (fun f => f)⟩
theorem Ky.behind {w w' : World} {P0 b1 b2 : Nat} {a1 a2 : Option Addr} {k : Int} {pin : List Int} (h : Ky w P0 b1 b2 a1 a2 k pin) (hm : Mods (fun i => w.heap.size ≤ i) w w') : Ky w' P0 b1 b2 a1 a2 k pin := by
  have h3 := h.row.lt
  have h4 := h.h1.lt
  have h5 := h.h2.lt
  have h6 := h.gk.lt
  exact ⟨h.row.mods hm (by omega), h.h1.mods hm (by omega) (fun i hi => by have := h.h1.in_lt i hi; omega), h.h2.mods hm (by omega) (fun i hi => by have := h.h2.in_lt i hi; omega), h.gk.mods hm (by omega)⟩
theorem Ky.of {w : World} {P0 b1 b2 : Nat} {a1 a2 : Option Addr} {k : Int} {pin : List Int} (h : Ky w P0 b1 b2 a1 a2 k pin) (hk : Kd k) (a : Option Addr) (n c : Nat) (ps : List (List Int)) (hps : Bs w a n c ps) (hl : Lim (ps.flatten.length + 500)) :
    Calls Tryd.prog 96 #[.agg #[.pointer (some ⟨b1, 0, none⟩), .pointer (some ⟨b2, 0, none⟩)], .slice a n c] w fun e w' => ∃ a' c', e = .returned (.slice a' (hsz k) c') ∧ SumOut w w' a' (hsz k) c' (hmac k pin ps.flatten) := by
  have hb : hbl k ≤ 128 := by rcases hbl_cases hk with e | e <;> omega
  exact f96 w k hk b1 b2 a1 a2 _ _ h.h1 h.h2 a n c ps hps (hl.of (by rw [length_kxor, length_keyOf hk]; omega)) (lim_k (by rw [length_kxor, length_keyOf hk]; omega)) h.gk
theorem own_set {w : World} {g n c : Nat} {l : List Int} (h : Own w 5 1 (some ⟨g, 0, none⟩) n c (bv l)) (i : Nat) (v : Int) : Own (w.setCell ⟨g, i, none⟩ (.int .u8 v)) 5 1 (some ⟨g, 0, none⟩) n c (bv (l.set i v)) := by
  obtain ⟨_, cur, t', fz, hb, hx⟩ := h.cells _ rfl
  obtain ⟨rfl, rfl, hr⟩ := h.free _ cur t' fz rfl hb
  have hs := heap_setCell_same w g i cur 5 (.int .u8 v) hb
  refine { len := by have := h.len; simpa [bv] using this, le := h.le, cap := h.cap, nil := fun e => (by cases e), cells := fun ad e => ?_, head := fun ad e => (by cases e; rfl), free := fun ad cur' t1 fz e hb' => ?_ }
  · cases e
    refine ⟨rfl, _, 5, (0, 0), hs, fun j u hu => ?_⟩
    rw [← bv_set] at hu
    simp only [Nat.zero_add]
    by_cases hij : i = j
    · subst hij
      have hlt := (List.getElem?_eq_some_iff.1 hu).1
      have h5 : (bv l)[i]? = some ((bv l)[i]'(by simpa using hlt)) := List.getElem?_eq_getElem _
      have h6 := hx i _ h5
      have h7 : i < cur.size := by simpa using (Array.getElem?_eq_some_iff.1 h6).1
      rw [List.getElem?_set_self (by simpa using hlt)] at hu
      cases hu
      simp [h7]
    · rw [List.getElem?_set_ne hij] at hu
      have h6 := hx j u hu
      simp only [Nat.zero_add] at h6
      rw [Array.getElem?_setIfInBounds_ne hij]
      exact h6
  · cases e
    have hb2 : (w.setCell ⟨g, i, none⟩ (.int .u8 v)).heap[g]? = _ := hb'
    rw [hs] at hb2
    have hb3 := Option.some.inj hb2
    injection hb3 with e1 e2 e3
    subst e1 e2 e3
    exact ⟨rfl, rfl, by simpa using hr⟩
theorem own_at {w : World} {g n c : Nat} {l : List Int} (h : Own w 5 1 (some ⟨g, 0, none⟩) n c (bv l)) (i : Nat) (hi : i < n) : w.cell? ⟨g, i, none⟩ = some (.int .u8 (l.getD i 0)) := by
  have hl : l.length = n := by have := h.len; simpa [bv] using this
  have := h.toSv.cell (getElem?_bv l i (by omega))
  simpa using this
set_option maxRecDepth 100000 in
set_option maxHeartbeats 2000000 in
theorem f40 (w : World) (k : Int) (hk : Kd k) (x : Option Addr) (n c : Nat) (pin : List Int) (hpin : KeyIn w x n c pin) (y : Option Addr) (ns cs : Nat) (salt : List Int) (hsalt : Sv w 5 1 y ns cs (bv salt)) (hsB : Byt salt) (hsl : Lim (salt.length + 2000)) (hg : GK w)
    (r N : Nat) (r1 : 1 ≤ r) (r2 : r ≤ 65536) (n1 : 1 ≤ N) (n2 : N ≤ 65536) (hrR : r * ((N + hsz k - 1) / hsz k) ≤ 65536) :
    Calls Tryd.prog 40 #[.int .i64 k, .slice x n c, .slice y ns cs, .int .i64 r, .int .i64 N] w fun e w' => ∃ a' c', e = .returned (.slice a' N c') ∧ SvOut w w' a' N c' (pbk k pin salt r N) := by
  have hz := hsz_pos hk
  have hz64 := hsz_le hk
  have hz0 : ((hsz k : Int) == 0) = false := by simp; omega
  obtain ⟨R, hR⟩ : ∃ R, Eqn R ((N + hsz k - 1) / hsz k) := ⟨_, ⟨rfl⟩⟩
  have hP : Pcs N (hsz k) R := by rw [hR.out]; exact pcs N (hsz k) hz
  have hRN : R ≤ 65536 := Nat.le_trans hP.le n2
  rw [← hR.out] at hrR
  have i1 : (1 : Int) ≤ r := by omega
  have i2 : (r : Int) ≤ 65536 := by omega
  have i3 : (1 : Int) ≤ N := by omega
  have i4 : (N : Int) ≤ 65536 := by omega
  have q1 : ((N : Int) + hsz k - 1) / hsz k = (R : Int) := by
    rw [hR.out, Int.natCast_ediv]
    congr 1
    omega
  have q2 : ((N : Int) + hsz k - 1).tdiv (hsz k) = (R : Int) := by
    rw [Int.tdiv_eq_ediv_of_nonneg (by omega)]
    exact q1
  have q3 : (0 : Int) ≤ (r : Int) * (R : Int) := by rw [← Int.natCast_mul]; omega
  have q4 : (r : Int) * (R : Int) ≤ 65536 := by rw [← Int.natCast_mul]; omega
  have q5 : (hsz k : Int) ≤ 64 := by omega
  have q6 : (0 : Int) < hsz k := by omega
  have T95 := f95 w k hk x n c pin hpin hg
  go_enter Tryd.func40, Tryd.ntmps40
  go_upto_region 4 with (go_at_call 27; refine (f27 k _).mono ?_; rintro e w' ⟨rfl, rfl⟩)
  clear q1 q2 q3 q4
  go_upto_region 5 with (go_at_call 95; with_reducible refine T95.mono ?_; rintro e w2 ⟨b1, b2, a1, a2, rfl, hH1, hH2, hM2⟩)
  obtain ⟨P0, hP0⟩ : ∃ P0, Eqn P0 w2.heap.size := ⟨_, ⟨rfl⟩⟩
  obtain ⟨W3, hW3⟩ : ∃ W3, Eqn W3 (w2.alloc (.cells #[.pointer (some ⟨b1, 0, none⟩), .pointer (some ⟨b2, 0, none⟩)] 118)) := ⟨_, ⟨rfl⟩⟩
  rw [← hW3.out, ← hP0.out]
  have hM3 : Mods Nix w W3 := by rw [hW3.out]; exact hM2.alloc _
  have hK3 : Ky W3 P0 b1 b2 a1 a2 k pin := by
    have hA := alloc_mods w2 (.cells #[.pointer (some ⟨b1, 0, none⟩), .pointer (some ⟨b2, 0, none⟩)] 118)
    rw [← hW3.out] at hA
    refine ⟨?_, hH1.ho.mods hA (fun f => f) (fun _ _ f => f), hH2.ho.mods hA (fun f => f) (fun _ _ f => f), hg.mods hM3 (fun f => f)⟩
    rw [hW3.out, hP0.out]
    exact RB.new w2 [_, _] 118
  clear hH1 hH2 T95
  go_wp2_with fail
  go_loopw [13, 14] (fun o i wr => ∃ (t nn : Nat) (a' : Option Addr) (c' : Nat), t ≤ R ∧ Eqn nn (hsz k * t) ∧ i = .int .i64 ((t : Int) + 1) ∧ o = .slice a' nn c' ∧ Own wr 5 1 a' nn c' (bv (pbN k pin salt r t)) ∧ New W3.heap.size a' ∧ Mods Nix W3 wr) (fun _ i _ => R + 1 - (intOf i).toNat)
  case atStart => exact ⟨0, 0, none, 0, Nat.zero_le _, ⟨by simp⟩, rfl, rfl, own_nil _, New.none _, Mods.refl _ _⟩
  case round =>
    obtain ⟨t, nn, a', c', ht, hnn, rfl, rfl, hO, hN, hM⟩ := hrel
    have hKw := hK3.mods hM
    by_cases h8 : t < R
    · have hlt : nn < N := by rw [hnn.out]; exact (hP.iff t).1 h8
      have ht6 : t < 65536 := by omega
      have e0w : wr.cell? ⟨P0, 0, none⟩ = some (.pointer (some ⟨b1, 0, none⟩)) := hKw.row.cell rfl
      have e1w : wr.cell? ⟨P0, 1, none⟩ = some (.pointer (some ⟨b2, 0, none⟩)) := hKw.row.cell rfl
      have e0 : wr.drew.cell? ⟨P0, 0, none⟩ = some (.pointer (some ⟨b1, 0, none⟩)) := hKw.row.cell rfl
      have e1 : wr.drew.cell? ⟨P0, 1, none⟩ = some (.pointer (some ⟨b2, 0, none⟩)) := hKw.row.cell rfl
      have T98 := f98 wr.drew ((t : Int) + 1)
      have T96 : ∀ {w1 : World} {a4 : Option Addr} {c4 : Nat}, SumOut wr.drew w1 a4 4 c4 (en4 (((t : Int) + 1) % 4294967296)) →
          Calls Tryd.prog 96 #[.agg #[.pointer (some ⟨b1, 0, none⟩), .pointer (some ⟨b2, 0, none⟩)], .slice (some ⟨w1.heap.size, 0, none⟩) 2 2] (w1.alloc (.cells #[.slice y ns cs, .slice a4 4 c4] 22)) fun e w' => ∃ a' c', e = .returned (.slice a' (hsz k) c') ∧ SumOut wr w' a' (hsz k) c' (pbT k pin (salt ++ en4 ((t + 1 : Nat) : Int)) 0) := by
        intro w1 a4 c4 hS
        have hMd : Mods Nix wr w1 := (Mods.refl Nix wr).drew.trans' hS.mods (fun _ _ f => f)
        have hy4 := hS.own.toSv
        have e4 : ((t : Int) + 1) % 4294967296 = ((t + 1 : Nat) : Int) := by rw [Int.emod_eq_of_lt (by omega) (by omega)]; omega
        rw [e4] at hy4
        have hb := bs_two (hsalt.mods ((hM3.trans' hM (fun _ _ f => f)).trans' hMd (fun _ _ f => f)) (fun _ _ f => f)) hy4 hsB (byt_en4 _)
        refine ((hKw.mods (hMd.alloc _)).of hk _ 2 2 _ hb (hsl.of (by simp [en4]))).mono ?_
        rintro e w' ⟨a5, c5, he, hS5⟩
        have e9 : [salt, en4 ((t + 1 : Nat) : Int)].flatten = salt ++ en4 ((t + 1 : Nat) : Int) := by simp
        rw [e9] at hS5
        have hMe : Mods Nix wr (w1.alloc (.cells #[.slice y ns cs, .slice a4 4 c4] 22)) := hMd.alloc _
        exact ⟨a5, c5, he, hS5.own, hS5.fresh.mono hMe.size, hMe.trans' hS5.mods (fun _ _ f => f)⟩
      go_upto_region 9 with (fail)
      go_region_held3 (fun w' => w'.cell? ⟨P0, 0, none⟩ = some (.pointer (some ⟨b1, 0, none⟩)) ∧ w'.cell? ⟨P0, 1, none⟩ = some (.pointer (some ⟨b2, 0, none⟩))) (first | (constructor <;> assumption)) (first | (go_at_call 98; with_reducible refine T98.mono ?_; rintro e w4 ⟨a4, c4, rfl, hS4⟩; have e2 := hS4.mods.cell e0 (fun f => f); have e3 := hS4.mods.cell e1 (fun f => f); have e2a := (alloc_mods w4 (.cells #[.slice y ns cs, .slice a4 4 c4] 22)).cell e2 (fun f => f); have e3a := (alloc_mods w4 (.cells #[.slice y ns cs, .slice a4 4 c4] 22)).cell e3 (fun f => f); have T6 := T96 hS4) | (go_at_call 96; with_reducible refine T6.mono ?_; rintro e w5 ⟨a5, c5, rfl, hS5⟩; have e4 := hS5.mods.cell e0w (fun f => f); have e5 := hS5.mods.cell e1w (fun f => f)))
      simp only [Exit.then]
      go_at_K
      have hM5 : Mods Nix wr w5 := hS5.mods
      clear e0 e1 e0w e1w e2 e3 e2a e3a e4 e5 T6 T98 T96
      obtain ⟨M, hMm⟩ : ∃ M, Eqn M (salt ++ en4 ((t + 1 : Nat) : Int)) := ⟨_, ⟨rfl⟩⟩
      rw [← hMm.out] at hS5
      have T93 := f93 hS5.own.toSv (lim_k (by omega))
      go_upto_region 11 with (go_at_call 93; with_reducible refine T93.mono ?_; rintro e w6 ⟨ax, cx, rfl, hOx, hNx, hM6, -⟩)
      have hcx := hOx.le
      obtain ⟨gx, rfl⟩ := hOx.addr (by omega)
      have hgx := hNx _ rfl
      have hgx2 : w5.heap.size ≤ gx := hgx
      have hM36 : Mods Nix W3 w6 := (hM.trans' hM5 (fun _ _ f => f)).trans' hM6 (fun _ _ f => f)
      have hu0 : ¬ In a5 gx := fun ⟨ad, e, hb⟩ => by have := hS5.own.toSv.lt ad e; omega
      have hSu := hS5.own.toSv.mods hM6 (fun _ _ f => f)
      have hz36 := hM36.size
      have hz35 := hM5.size
      have hzw := hM.size
      have hz3 := hM3.size
      clear T93 hS5
      go_wp2_with fail
      go_loopw [15, 68] (fun u i w7 => ∃ (s : Nat) (au : Option Addr) (cu : Nat), s ≤ r - 1 ∧ i = .int .i64 s ∧ u = .slice au (hsz k) cu ∧ Sv w7 5 1 au (hsz k) cu (bv (pbU k pin M s)) ∧ (¬ In au gx) ∧ Own w7 5 1 (some ⟨gx, 0, none⟩) (hsz k) cx (bv (pbT k pin M s)) ∧ Mods (fun i => i = gx) w6 w7) (fun _ i _ => (r - 1) - (intOf i).toNat)
      case atStart => exact ⟨0, a5, c5, Nat.zero_le _, rfl, rfl, hSu, hu0, hOx, Mods.refl _ _⟩
      case round =>
        clear hSu hu0 hOx
        obtain ⟨s, au, cu, hs, rfl, rfl, hSu, hu, hOx, hM7⟩ := hrel
        have hM37 : Mods (fun i => W3.heap.size ≤ i) W3 wr := (hM36.mono (fun _ _ f => f.elim)).trans' hM7 (fun i hi e => by omega)
        by_cases h9 : s < r - 1
        · have hK7 := hK3.behind hM37
          have e0 : wr.cell? ⟨P0, 0, none⟩ = some (.pointer (some ⟨b1, 0, none⟩)) := hK7.row.cell rfl
          have e1 : wr.cell? ⟨P0, 1, none⟩ = some (.pointer (some ⟨b2, 0, none⟩)) := hK7.row.cell rfl
          have q7 : (s : Int) < r - 1 := by omega
          have T96 : Calls Tryd.prog 96 #[.agg #[.pointer (some ⟨b1, 0, none⟩), .pointer (some ⟨b2, 0, none⟩)], .slice (some ⟨wr.heap.size, 0, none⟩) 1 1] (wr.alloc (.cells #[.slice au (hsz k) cu] 22)) fun e w' => ∃ a' c', e = .returned (.slice a' (hsz k) c') ∧ SumOut wr w' a' (hsz k) c' (pbU k pin M (s + 1)) := by
            have hb := bs_one (Mods.refl Nix wr) ⟨hSu, byt_pbU _ _ _ _, lim_k (by rw [length_pbU hk]; omega)⟩
            refine ((hK7.mods (alloc_mods wr _)).of hk _ 1 1 _ hb (lim_k (by simp [length_pbU hk]; omega))).mono ?_
            rintro e w' ⟨a9, c9, he, hS9⟩
            have e9 : [pbU k pin M s].flatten = pbU k pin M s := by simp
            rw [e9] at hS9
            exact ⟨a9, c9, he, hS9.own, hS9.fresh.mono (by simp), (alloc_mods wr _).trans' hS9.mods (fun _ _ f => f)⟩
          go_upto_region 15 with (go_at_call 96; with_reducible refine T96.mono ?_; rintro e w8 ⟨a8, c8, rfl, hS8⟩)
          have hc8 := hS8.own.le
          obtain ⟨g8, rfl⟩ := hS8.own.addr (by omega)
          have hg8 := hS8.fresh _ rfl
          have hg8' : wr.heap.size ≤ g8 := hg8
          have hgxw : gx < wr.heap.size := hOx.toSv.lt _ rfl
          have hne : ¬ g8 = gx := by omega
          have hOx8 := hOx.mods hS8.mods (fun _ _ f => f)
          have hM8 : Mods (fun i => i = gx) w6 w8 := hM7.trans' hS8.mods (fun _ _ f => f.elim)
          obtain ⟨T, hT⟩ : ∃ T, Eqn T (pbT k pin M s) := ⟨_, ⟨rfl⟩⟩
          obtain ⟨U, hU⟩ : ∃ U, Eqn U (pbU k pin M (s + 1)) := ⟨_, ⟨rfl⟩⟩
          have hS8o := hS8.own
          rw [← hT.out] at hOx8
          rw [← hU.out] at hS8o
          have hTl : Eqn T.length (hsz k) := ⟨by rw [hT.out, length_pbT hk]⟩
          have hUl : Eqn U.length (hsz k) := ⟨by rw [hU.out, length_pbU hk]⟩
          have hXl : Eqn (kx T U).length T.length := ⟨length_kx (by rw [hTl.out, hUl.out])⟩
          have hS9 : Own w8 5 1 (some ⟨g8, 0, none⟩) (hsz k) c8 (bv U) := hS8o
          clear hS8 hS8o T96 e0 e1 hK7 hSu hOx hu hg8 hM37
          go_wp2_with fail
          go_loopw [76] (fun i w9 => ∃ j : Nat, j ≤ hsz k ∧ i = .int .i64 j ∧ Own w9 5 1 (some ⟨gx, 0, none⟩) (hsz k) cx (bv ((kx T U).take j ++ T.drop j)) ∧ Own w9 5 1 (some ⟨g8, 0, none⟩) (hsz k) c8 (bv U) ∧ Mods (fun i => i = gx) w6 w9) (fun i _ => hsz k - (intOf i).toNat)
          case atStart => exact ⟨0, Nat.zero_le _, rfl, by simpa using hOx8, hS9, hM8⟩
          case round =>
            clear hOx8 hS9 hM8
            obtain ⟨j, hj, rfl, hOx, hS9, hM8⟩ := hrel
            by_cases hjz : j < hsz k
            · obtain ⟨v1, hv1⟩ : ∃ v1, Eqn v1 (T.getD j 0) := ⟨_, ⟨rfl⟩⟩
              obtain ⟨v2, hv2⟩ : ∃ v2, Eqn v2 (U.getD j 0) := ⟨_, ⟨rfl⟩⟩
              have d1 : wr.cell? ⟨gx, j, none⟩ = some (.int .u8 v1) := by
                rw [own_at hOx j hjz, over_at (kx T U) T j hXl.out (by rw [hTl.out]; exact hjz), hv1.out]
              have d2 : wr.cell? ⟨g8, j, none⟩ = some (.int .u8 v2) := by rw [own_at hS9 j hjz, hv2.out]
              have f1 : wr.frozen? ⟨gx, j, none⟩ = false := hOx.frozen j
              have p0 : (0 : Int) ≤ j := by omega
              have p1 : (j : Int) < hsz k := by omega
              go_wp2_with fail
              go_region
              go_wp2_with fail
              go_roundw
              case measure => simp [intOf]; omega
              case rel =>
                have hm9 := (Mods.refl (fun i => i = gx) wr).setCell (p := ⟨gx, j, none⟩) (.inl rfl) (.int .u8 (bits .xor .u8 v1 v2))
                refine ⟨j + 1, hjz, by go_num, ?_, (hS9.mods hm9 (fun i hi e => by obtain ⟨ad, e2, hb⟩ := hi; cases e2; exact hne (by rw [← e, ← hb]))).mods ((Mods.refl Nix _).drew) (fun _ _ f => f), (hM8.setCell (.inl rfl) _).drew⟩
                have h9 := own_set hOx j (bits .xor .u8 v1 v2)
                have hvx : (kx T U)[j]? = some (bits .xor .u8 v1 v2) := by
                  have h1 : j < T.length := by rw [hTl.out]; exact hjz
                  have h2 : j < U.length := by rw [hUl.out]; exact hjz
                  rw [kx, List.getElem?_zipWith, hv1.out, hv2.out]
                  simp [h1, h2, List.getD]
                rw [set_over _ T j _ hXl.out (by rw [hTl.out]; exact hjz) hvx] at h9
                exact h9.mods ((Mods.refl Nix _).drew) (fun _ _ f => f)
            · obtain rfl : j = hsz k := by omega
              rw [List.take_of_length_le (by rw [hXl.out, hTl.out]; exact Nat.le_refl _), List.drop_eq_nil_of_le (by rw [hTl.out]; exact Nat.le_refl _), List.append_nil] at hOx
              go_wp2_with fail
              go_roundw
              case measure => simp [intOf]; omega
              case rel =>
                refine ⟨s + 1, _, c8, by omega, by go_num, rfl, ?_, fun ⟨ad, e, hb⟩ => (by cases e; exact hne hb), ?_, hM8⟩
                · rw [← hU.out]; exact hS9.toSv
                · rw [pbT, ← hT.out, ← hU.out]; exact hOx
        · obtain rfl : s = r - 1 := by omega
          have q7 : ¬ ((r - 1 : Nat) : Int) < r - 1 := by omega
          have hinO : ∀ i, In a' i → ¬ i = gx := fun i ⟨ad, e, hb⟩ => by have := hO.toSv.lt ad e; omega
          have hO7 := (hO.mods (hM5.trans' hM6 (fun _ _ f => f)) (fun _ _ f => f)).mods hM7 (fun i hi => hinO i hi)
          have hLa : Lim (nn + hsz k) := ⟨by omega⟩
          have hSx := hOx.toSv
          go_wp2_with (first | (at_builtin; with_reducible refine wpList_app rfl (.tmp 91) (.tmp 92) ei22 rfl hO7 hSx rfl rfl (bv_one _) (lim_app hLa) hLa.maxLen ?_; intro a9 c9 w9 hO9))
          go_roundw
          case measure => simp [intOf]; omega
          case rel =>
            have hM39 : Mods Nix W3 w9 := (hM36.trans' hM7 (fun i hi e => by omega)).trans' hO9.mods (fun i hi ⟨ad, e, hb⟩ => by have := hN ad e; omega)
            refine ⟨t + 1, nn + hsz k, a9, c9, h8, ⟨by rw [hnn.out, Nat.mul_add, Nat.mul_one]⟩, by go_num, rfl, ?_, hO9.new hN (by have := hM7.size; omega), hM39⟩
            rw [pbN, ← hMm.out, bv_append]
            exact hO9.own
    · obtain rfl : t = R := by omega
      have hge : N ≤ nn := by
        have h3 := hP.iff t
        rw [hnn.out]; omega
      have hge2 : ¬ nn < N := by omega
      have hcc := hO.le
      have hcap : N ≤ c' := by omega
      go_wp2_with (first | (with_reducible refine wpList_sub rfl (.tmp 94) none (some (.tmp 95)) (some (.tmp 96)) ei22 rfl rfl hO.toSv 0 N N (Nat.zero_le _) hge (Nat.le_refl _) hcap (bounds_full _ _ _ hge hcc _ _) ?_; intro a9 hS9))
      go_ret
      refine ⟨a9, N, rfl, ?_, fun ad e => ?_, hM3.trans' hM (fun _ _ f => f)⟩
      · have h9 := hS9.sv
        simp only [Nat.sub_zero, Nat.mul_one, List.drop_zero, bv_take] at h9
        rw [pbk, ← hR.out]
        exact h9
      · obtain ⟨ad2, e2, e3⟩ := hS9.sub _ ⟨ad, e, rfl⟩
        have := hN ad2 e2
        have := hM3.size
        omega
end Go.Proofs.YtladijfaeieidaaDoor
