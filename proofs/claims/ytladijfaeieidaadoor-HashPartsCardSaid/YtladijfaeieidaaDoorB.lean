/- Base words for the walks of this seat: which blocks a call may change, slices as lists of values, the laws for append, make, slicing, copying and conversion of such slices. No condition. -/
import Derived.Test.YtladijfaeieidaaDoorProg
import Derived.WalkKit
import Derived.WalkLawsBesides
import Derived.WalkSpells
import Derived.Laws.CopyOwn
import Derived.Deep.QuietTactic
import Derived.BigQuiet
namespace Go.Proofs.YtladijfaeieidaaDoor
open Go.RowKit

/-- w' is w but for new blocks and for what lies in the blocks of S. -/
structure Mods (S : Nat → Prop) (w w' : World) : Prop where
  os : w'.os = w.os
  tape : w'.tape = w.tape
  output : w'.output = w.output
  size : w.heap.size ≤ w'.heap.size
  block : ∀ k, k < w.heap.size → ¬ S k → w'.heap[k]? = w.heap[k]?

/-- Nothing that lay in w has changed. -/
def Nix : Nat → Prop := fun _ => False

theorem Mods.refl (S : Nat → Prop) (w : World) : Mods S w w := ⟨rfl, rfl, rfl, Nat.le_refl _, fun _ _ _ => rfl⟩
theorem Mods.mono {S T : Nat → Prop} {w w' : World} (h : Mods S w w') (hs : ∀ k, k < w.heap.size → S k → T k) : Mods T w w' :=
  ⟨h.os, h.tape, h.output, h.size, fun k hk hn => h.block k hk (fun s => hn (hs k hk s))⟩
theorem Mods.trans {S : Nat → Prop} {a b c : World} (h : Mods S a b) (k : Mods (fun i => S i ∨ a.heap.size ≤ i) b c) : Mods S a c :=
  ⟨k.os.trans h.os, k.tape.trans h.tape, k.output.trans h.output, Nat.le_trans h.size k.size,
    fun i hi hn => (k.block i (Nat.lt_of_lt_of_le hi h.size) (fun s => s.elim hn (fun s => by omega))).trans (h.block i hi hn)⟩
theorem Mods.trans' {S T : Nat → Prop} {a b c : World} (h : Mods S a b) (k : Mods T b c) (hs : ∀ i, i < a.heap.size → T i → S i) : Mods S a c :=
  h.trans ⟨k.os, k.tape, k.output, k.size, fun i hi hn => k.block i hi (fun t => hn (by
    by_cases hl : i < a.heap.size
    · exact .inl (hs i hl t)
    · exact .inr (by omega)))⟩
theorem Mods.drew {S : Nat → Prop} {a w : World} (h : Mods S a w) : Mods S a w.drew := ⟨h.os, h.tape, h.output, h.size, h.block⟩
theorem Mods.drewN {S : Nat → Prop} {a w : World} (h : Mods S a w) (n : Nat) : Mods S a (w.drewN n) := ⟨h.os, h.tape, h.output, h.size, h.block⟩
theorem Mods.alloc {S : Nat → Prop} {a w : World} (h : Mods S a w) (o : Obj) : Mods S a (w.alloc o) :=
  h.trans ⟨rfl, rfl, rfl, by simp, fun k hk _ => Below.heap_alloc w o k hk⟩
theorem Mods.setCell {S : Nat → Prop} {a w : World} (h : Mods S a w) {p : Addr} (hp : S p.block ∨ a.heap.size ≤ p.block) (u : Value) : Mods S a (w.setCell p u) :=
  h.trans ⟨rfl, rfl, rfl, by simp [World.setCell], fun k _ hn => heap_setCell_other w p k u (fun e => hn (e ▸ hp))⟩
theorem Mods.setRow {S : Nat → Prop} {a w : World} (h : Mods S a w) {g : Nat} (hp : S g ∨ a.heap.size ≤ g) (cs : Array Value) : Mods S a (w.setRow g cs) :=
  h.trans ⟨rfl, rfl, rfl, by simp [World.setRow], fun k _ hn => setRow_other w g k cs (fun e => hn (e ▸ hp))⟩
theorem Mods.of_grown {w w' : World} {row : Option Nat} (h : w.grownBy w' row) : Mods (fun k => some k = row) w w' :=
  ⟨h.os, h.tape, h.output, h.size, fun k hk hn => h.block k hk hn⟩
theorem Mods.of_below {w w' : World} (h : Below w.heap.size w w') : Mods Nix w w' := ⟨h.os, h.tape, h.output, h.size, fun k hk _ => h.block k hk⟩
theorem Mods.below {w w' : World} (h : Mods Nix w w') : Below w.heap.size w w' := ⟨h.os, h.tape, h.output, h.size, fun k hk => h.block k hk (fun f => f)⟩
theorem Mods.heap {S : Nat → Prop} {w w' : World} (h : Mods S w w') {k : Nat} {o : Obj} (hk : w.heap[k]? = some o) (hn : ¬ S k) : w'.heap[k]? = some o :=
  (h.block k (Array.getElem?_eq_some_iff.1 hk).1 hn).trans hk
theorem Mods.cell {S : Nat → Prop} {w w' : World} (h : Mods S w w') {a : Addr} {v : Value} (hc : w.cell? a = some v) (hn : ¬ S a.block) : w'.cell? a = some v :=
  (World.cell?_of_block (h.block a.block (World.block_lt_of_cell? w a hc) hn)).trans hc
theorem lt_heap {w : World} {k : Nat} {o : Obj} (h : w.heap[k]? = some o) : k < w.heap.size := (Array.getElem?_eq_some_iff.1 h).1

/-- A slice (address a, n elements, room for c; each element sz cells) reads as xs; t is said for Own's sake. -/
structure Sv (w : World) (t sz : Nat) (a : Option Addr) (n c : Nat) (xs : List Value) : Prop where
  len : xs.length = n * sz
  le : n ≤ c
  cap : c ≤ maxLen
  nil : a = none → c = 0
  cells : ∀ ad, a = some ad → ad.spot = none ∧ ∃ cur t' fz, w.heap[ad.block]? = some (.cells cur t' fz) ∧ ∀ i u, xs[i]? = some u → cur[ad.off + i]? = some u

/-- The same, and the slice begins at the head of a row of cells of type t that no string shares, and the row has its room. -/
structure Own (w : World) (t sz : Nat) (a : Option Addr) (n c : Nat) (xs : List Value) : Prop extends Sv w t sz a n c xs where
  head : ∀ ad, a = some ad → ad.off = 0
  free : ∀ ad cur t' fz, a = some ad → w.heap[ad.block]? = some (.cells cur t' fz) → t' = t ∧ fz = (0, 0) ∧ ad.off + c * sz ≤ cur.size

/-- Every block of the address lies at or behind B. -/
def New (B : Nat) (a : Option Addr) : Prop := ∀ ad, a = some ad → B ≤ ad.block
/-- The address is none, or lies in block k. -/
def In (a : Option Addr) (k : Nat) : Prop := ∃ ad, a = some ad ∧ ad.block = k

theorem New.mono {B B' : Nat} {a : Option Addr} (h : New B a) (hb : B' ≤ B) : New B' a := fun ad e => Nat.le_trans hb (h ad e)
theorem New.notIn {B k : Nat} {a : Option Addr} (h : New B a) (hk : k < B) : ¬ In a k := fun ⟨ad, e, hb⟩ => by have := h ad e; omega
theorem New.none (B : Nat) : New B Option.none := fun _ e => by cases e

theorem Sv.lt {w : World} {t sz : Nat} {a : Option Addr} {n c : Nat} {xs : List Value} (h : Sv w t sz a n c xs) : ∀ ad, a = some ad → ad.block < w.heap.size := fun ad e => by
  obtain ⟨_, cur, t', fz, hb, _⟩ := h.cells ad e
  exact lt_heap hb
theorem Sv.mods {S : Nat → Prop} {w w' : World} {t sz : Nat} {a : Option Addr} {n c : Nat} {xs : List Value} (h : Sv w t sz a n c xs) (hm : Mods S w w') (hn : ∀ k, In a k → ¬ S k) : Sv w' t sz a n c xs :=
  ⟨h.len, h.le, h.cap, h.nil, fun ad e => by
    obtain ⟨hs, cur, t', fz, hb, r⟩ := h.cells ad e
    exact ⟨hs, cur, t', fz, hm.heap hb (hn _ ⟨ad, e, rfl⟩), r⟩⟩
theorem Own.mods {S : Nat → Prop} {w w' : World} {t sz : Nat} {a : Option Addr} {n c : Nat} {xs : List Value} (h : Own w t sz a n c xs) (hm : Mods S w w') (hn : ∀ k, In a k → ¬ S k) : Own w' t sz a n c xs :=
  { h.toSv.mods hm hn with
    head := h.head
    free := fun ad cur t1 fz e hb => by
      obtain ⟨_, cur', t', fz', hb', _⟩ := h.cells ad e
      rw [hm.heap hb' (hn _ ⟨ad, e, rfl⟩)] at hb
      obtain ⟨rfl, rfl, rfl⟩ : cur' = cur ∧ t' = t1 ∧ fz' = fz := by simpa using hb
      exact h.free ad cur' t' fz' e hb' }
theorem Sv.cell {w : World} {t sz : Nat} {ad : Addr} {n c : Nat} {xs : List Value} (h : Sv w t sz (some ad) n c xs) {i : Nat} {u : Value} (hu : xs[i]? = some u) : w.cell? ⟨ad.block, ad.off + i, none⟩ = some u := by
  obtain ⟨_, cur, t', fz, hb, hc⟩ := h.cells ad rfl
  rw [cell_of_row w _ _ cur t' fz hb]
  exact hc i u hu
theorem Sv.addr {w : World} {t sz : Nat} {a : Option Addr} {n c : Nat} {xs : List Value} (h : Sv w t sz a n c xs) (hn : 0 < n) : ∃ b off, a = some ⟨b, off, none⟩ := by
  cases a with
  | none => have := h.nil rfl; have := h.le; omega
  | some ad =>
    obtain ⟨hs, _⟩ := h.cells ad rfl
    obtain ⟨b, off, spot⟩ := ad
    exact ⟨b, off, by simp at hs; subst hs; rfl⟩
theorem Own.addr {w : World} {t sz : Nat} {a : Option Addr} {n c : Nat} {xs : List Value} (h : Own w t sz a n c xs) (hn : 0 < c) : ∃ b, a = some ⟨b, 0, none⟩ := by
  cases a with
  | none => have := h.nil rfl; omega
  | some ad =>
    obtain ⟨hs, _⟩ := h.cells ad rfl
    have h0 := h.head ad rfl
    obtain ⟨b, off, spot⟩ := ad
    exact ⟨b, by simp at hs h0; subst hs h0; rfl⟩
theorem Own.frozen {w : World} {t sz : Nat} {ad : Addr} {n c : Nat} {xs : List Value} (h : Own w t sz (some ad) n c xs) (i : Nat) : w.frozen? ⟨ad.block, i, none⟩ = false := by
  obtain ⟨_, cur, t', fz, hb, _⟩ := h.cells ad rfl
  obtain ⟨-, rfl, -⟩ := h.free ad cur t' fz rfl hb
  exact frozen_of_row w _ i cur t' hb
theorem Own.none (w : World) (t sz : Nat) : Own w t sz .none 0 0 [] :=
  { len := by simp, le := Nat.le_refl _, cap := Nat.zero_le _, nil := fun _ => rfl, cells := fun _ e => by (cases e), head := fun _ e => by (cases e), free := fun _ _ _ _ e => by (cases e) }
/-- A new row, known whole. -/
theorem Own.row {w : World} {t sz g n : Nat} {cur : Array Value} (hg : w.heap[g]? = some (.cells cur t (0, 0))) (hs : cur.size = n * sz) (hm : n ≤ maxLen) : Own w t sz (some ⟨g, 0, .none⟩) n n cur.toList :=
  { len := by simp [hs], le := Nat.le_refl _, cap := hm, nil := fun e => by (cases e),
    cells := fun ad e => by
      cases e
      exact ⟨rfl, cur, t, (0, 0), hg, fun i u hu => by simpa using hu⟩
    head := fun ad e => by cases e; rfl
    free := fun ad cur' t1 fz e hb => by
      cases e
      have hb' : w.heap[g]? = _ := hb
      rw [hg] at hb'
      simp at hb'
      obtain ⟨rfl, rfl, rfl⟩ := hb'
      exact ⟨rfl, rfl, by simp [hs]⟩ }
theorem alloc_mods (w : World) (o : Obj) : Mods Nix w (w.alloc o) := (Mods.refl _ w).alloc o

/-- What the program's table says of a slice type: the type t of the slice, its element type e with the zero value z, so many cells and bytes. -/
structure EI (P : Program) (t e : TypeId) (z : Value) (sz bytes : Nat) : Prop where
  under : P.underlying t = some (.slice e)
  info : ∃ i, P.info? e = some i ∧ i.zero = some z ∧ i.size = sz ∧ i.bytes = bytes
  zsize : z.cells.size = sz
  pos : 0 < sz

theorem size_zeros (z : Array Value) (n : Nat) : (Builtin.zeroCells z n).size = n * z.size := by simp [Builtin.zeroCells]

/-- append onto a slice of the call's own. -/
theorem run_app {P : Program} (w : World) {t e : TypeId} {z : Value} {sz bytes : Nat} (I : EI P t e z sz bytes) (ty : TypeId) {a a2 : Option Addr} {n c m c2 : Nat} {xs ys : List Value}
    (hd : Own w e sz a n c xs) (hs : Sv w e sz a2 m c2 ys) (h1 : ∀ u ∈ ys, u.oneCell' = true) (hb : (n + m) * bytes ≤ 140737488355328) (h63 : n + m ≤ maxLen) :
    ∃ a' c' w', (Builtin.append_ #[t, t] ty #[.slice a n c, .slice a2 m c2]).run P w = .ok (.slice a' (n + m) c') w' ∧ Own w' e sz a' (n + m) c' (xs ++ ys) ∧ Mods (In a) w w' ∧
      ((∃ ad ad', a = some ad ∧ a' = some ad' ∧ ad.block = ad'.block) ∨ New w.heap.size a') ∧ (a' = .none ↔ a = .none ∧ m = 0) := by
  obtain ⟨ht, ⟨i, hi, hz, hsize, hby⟩, hzs, hpos⟩ := I
  subst hsize
  subst hby
  have hsmall : n + m ≤ 9223372036854775807 := by simp only [maxLen] at h63; omega
  have hlen : (xs ++ ys).length = (n + m) * i.size := by rw [List.length_append, hd.len, hs.len, Nat.add_mul]
  have grown : ∀ old : Nat, old < n + m →
      Own (w.drew.alloc (.cells (xs.toArray ++ ys.toArray ++ Builtin.zeroCells z.cells (grownCap w (n + m) old e - (n + m))) e)) e i.size (some ⟨w.heap.size, 0, .none⟩) (n + m) (grownCap w (n + m) old e) (xs ++ ys) := by
    intro old ho
    have hge := grownCap_ge w (n + m) old e
    have hcm := grownCap_le_maxLen w (n + m) old e h63
    have hb : (w.drew.alloc (.cells (xs.toArray ++ ys.toArray ++ Builtin.zeroCells z.cells (grownCap w (n + m) old e - (n + m))) e)).heap[w.heap.size]? =
      some (.cells (xs.toArray ++ ys.toArray ++ Builtin.zeroCells z.cells (grownCap w (n + m) old e - (n + m))) e (0, 0)) := heap_alloc_new w.drew _
    refine { len := hlen, le := hge, cap := hcm, nil := fun e => by (cases e), cells := ?_, head := fun ad e => by cases e; rfl, free := ?_ }
    · intro ad e'
      cases e'
      refine ⟨rfl, _, e, (0, 0), hb, ?_⟩
      intro j u hu
      have hlt := (List.getElem?_eq_some_iff.1 hu).1
      simp only [Nat.zero_add]
      rw [Array.getElem?_append_left (by simpa using hlt)]
      simpa using hu
    · intro ad cur t1 fz e' hb'
      cases e'
      have hb'' : (w.drew.alloc _).heap[w.heap.size]? = _ := hb'
      rw [hb] at hb''
      have hb3 := Option.some.inj hb''
      injection hb3 with e1 e2 e3
      subst e1 e2 e3
      refine ⟨rfl, rfl, ?_⟩
      simp only [Array.size_append, List.size_toArray, size_zeros, hzs, hd.len, hs.len, ← Nat.add_mul]
      rw [Nat.zero_add]
      refine Nat.mul_le_mul_right _ ?_
      omega
  have gm : ∀ o : Obj, Mods (In a) w (w.drew.alloc o) := fun o => ((Mods.refl _ w).drew).alloc o
  cases a2 with
  | none =>
    have hc2 := hs.nil rfl
    obtain rfl : m = 0 := by have := hs.le; omega
    have hy : ys = [] := List.eq_nil_of_length_eq_zero (by simpa using hs.len)
    subst hy
    refine ⟨a, c, w, ?_, by simpa using hd, Mods.refl _ _, ?_, by simp⟩
    · have hle : n ≤ c := hd.le
      cases a <;> simp [Builtin.append_, run_underlying ht, sizeOf, typeInfo, hi, Builtin.lenOf, Builtin.firstCells, hle, storeCells]
    · cases a with
      | none => exact .inr (New.none _)
      | some ad => exact .inl ⟨ad, ad, rfl, rfl, rfl⟩
  | some ad2 =>
    obtain ⟨hsp2, cur2, t2, fz2, hb2, hx2⟩ := hs.cells ad2 rfl
    obtain ⟨b2, o2, s2⟩ := ad2
    simp at hsp2; subst hsp2
    have hnews : ∀ j v, ys[j]? = some v → w.cell? ((⟨b2, o2, .none⟩ : Addr).add j) = some v := by
      intro j v hv
      have := hs.cell hv
      rw [Addr.add_lit]
      exact this
    cases a with
    | none =>
      have hc := hd.nil rfl
      subst hc
      obtain rfl : n = 0 := by have := hd.le; omega
      have hx : xs = [] := List.eq_nil_of_length_eq_zero (by simpa using hd.len)
      subst hx
      by_cases hm : m = 0
      · subst hm
        have hy : ys = [] := List.eq_nil_of_length_eq_zero (by simpa using hs.len)
        subst hy
        refine ⟨.none, 0, w, ?_, Own.none _ _ _, Mods.refl _ _, .inr (New.none _), by simp⟩
        simp [Builtin.append_, run_underlying ht, sizeOf, typeInfo, hi, Builtin.lenOf, Builtin.firstCells, loadCells, loadCellsFrom]
      · have hr := run_append_nil (P := P) w t ty e i z ht hi hz ⟨b2, o2, .none⟩ m c2 ys hs.len hnews (by omega) (by omega) (by have hb := hb; simp only [Nat.zero_add] at hb; omega)
        have hg := grown 0 (by omega)
        simp only [Nat.zero_add, List.nil_append, Array.empty_append] at hg ⊢
        exact ⟨_, _, _, hr, hg, gm _, .inr (fun ad e => by cases e; exact Nat.le_refl _), by simp [hm]⟩
    | some ad =>
      obtain ⟨hsp, cur, t1, fz, hbk, hxx⟩ := hd.cells ad rfl
      obtain ⟨ht1, hz0, hcc⟩ := hd.free ad cur t1 fz rfl hbk
      have ho0 := hd.head ad rfl
      obtain ⟨g, o, s⟩ := ad
      simp at hsp ho0
      rw [ht1] at hbk
      subst hsp ho0 hz0
      simp only [Nat.zero_add] at hcc hxx
      have hbk' : w.heap[g]? = some (.cells cur e (0, 0)) := hbk
      by_cases hroom : n + m ≤ c
      · have hfit : n * i.size + ys.length ≤ cur.size := by
          rw [hs.len, ← Nat.add_mul]; exact Nat.le_trans (Nat.mul_le_mul_right _ hroom) hcc
        have hr := run_append_room (P := P) w t ty e i ht hi g n c cur hbk' ⟨b2, o2, .none⟩ m c2 ys hs.len hnews h1 hroom hfit
        have htake : cur.toList.take (n * i.size) = xs := by
          have hl : n * i.size ≤ cur.size := by omega
          apply List.ext_getElem?
          intro j
          by_cases hj : j < n * i.size
          · have : j < xs.length := by rw [hd.len]; exact hj
            have h2 := hxx j _ (List.getElem?_eq_getElem this)
            rw [List.getElem?_take_of_lt hj, List.getElem?_eq_getElem this]
            simpa using h2
          · rw [List.getElem?_eq_none (by simp; omega), List.getElem?_eq_none (by rw [hd.len]; omega)]
        have hset := setRow_heap w g cur (cur.toList.take (n * i.size) ++ ys ++ cur.toList.drop (n * i.size + ys.length)).toArray e _ hbk'
        refine ⟨_, _, _, hr, ?_, (Mods.refl _ w).setRow (.inl ⟨_, rfl, rfl⟩) _, .inl ⟨_, _, rfl, rfl, rfl⟩, by simp⟩
        refine { len := hlen, le := hroom, cap := hd.cap, nil := fun e => by (cases e), cells := ?_, head := fun ad e => by cases e; rfl, free := ?_ }
        · intro ad e'
          cases e'
          refine ⟨rfl, _, _, (0, 0), hset, ?_⟩
          intro j u hu
          have hlt := (List.getElem?_eq_some_iff.1 hu).1
          simp only [Nat.zero_add]
          rw [htake]
          simp only [List.getElem?_toArray]
          rw [List.getElem?_append_left hlt]
          exact hu
        · intro ad cur' t1 fz' e' hb'
          cases e'
          have hb'' : (w.setRow g _).heap[g]? = _ := hb'
          rw [hset] at hb''
          have hb3 := Option.some.inj hb''
          injection hb3 with e1 e2 e3
          subst e1 e2 e3
          refine ⟨rfl, rfl, ?_⟩
          simp only [List.size_toArray, List.length_append, List.length_take, List.length_drop, Array.length_toList]
          omega
      · have holds : ∀ j u, xs[j]? = some u → w.cell? ((⟨g, 0, .none⟩ : Addr).add j) = some u := by
          intro j u hu
          rw [Addr.add_lit]
          exact hd.toSv.cell hu
        have hr := run_append_grow (P := P) w t ty e i z ht hi hz ⟨g, 0, .none⟩ n c xs hd.len holds ⟨b2, o2, .none⟩ m c2 ys hs.len hnews (by omega) (by omega) (growslice_fits (by omega) hb)
        exact ⟨_, _, _, hr, grown c (by omega), gm _, .inr (fun ad e => by cases e; exact Nat.le_refl _), by simp⟩

/-- What an append leaves. -/
structure AppOut (w w' : World) (e sz : Nat) (a a' : Option Addr) (k c' m : Nat) (zs : List Value) : Prop where
  own : Own w' e sz a' k c' zs
  mods : Mods (In a) w w'
  fresh : (∃ ad ad', a = some ad ∧ a' = some ad' ∧ ad.block = ad'.block) ∨ New w.heap.size a'
  nil : a' = .none ↔ a = .none ∧ m = 0
theorem AppOut.new {w w' : World} {e sz : Nat} {a a' : Option Addr} {k c' m : Nat} {zs : List Value} (h : AppOut w w' e sz a a' k c' m zs) {B : Nat} (ha : New B a) (hb : B ≤ w.heap.size) : New B a' := by
  rcases h.fresh with ⟨ad, ad', e1, e2, e3⟩ | hf
  · intro x hx
    rw [e2] at hx; cases hx
    rw [← e3]; exact ha ad e1
  · exact hf.mono hb

theorem wpList_app {P : Program} {w : World} {ops : Array Oper} {rest : List Oper} {o : Oper} {a : Act} {Q : Exit → Act → World → Prop} (hgd : o.guard = .none) (s x : Operand)
    {t e : TypeId} {z : Value} {sz bytes : Nat} (I : EI P t e z sz bytes) (ho : o.op = .call { callee := .builtin .append, args := #[s, x], argTypes := #[t, t] })
    {a1 a2 : Option Addr} {n c m c2 : Nat} {xs ys : List Value} (hd : Own w e sz a1 n c xs) (hsv : Sv w e sz a2 m c2 ys)
    (hs : a.eval s = .slice a1 n c) (hx : a.eval x = .slice a2 m c2) (h1 : ∀ u ∈ ys, u.oneCell' = true) (hb : (n + m) * bytes ≤ 140737488355328) (h63 : n + m ≤ maxLen)
    (h : ∀ a' c' w', AppOut w w' e sz a1 a' (n + m) c' m (xs ++ ys) →
      wpList P ops Q rest (a.put o.dst (.slice a' (n + m) c')) w') : wpList P ops Q (o :: rest) a w := by
  refine wpList_plain hgd fun K hK => ?_
  obtain ⟨a', c', w', hr, h2, h3, h4, h5⟩ := run_app (P := P) w I o.type hd hsv h1 hb h63
  unfold Oper.wp execOp
  simp only [ho, resolve, invoke, builtin, Sem.run_bind, Sem.run_pure, Result.andThen_ok, List.map_toArray, List.map_cons, List.map_nil, hs, hx, hr]
  exact hK _ _ (h a' c' w' ⟨h2, h3, h4, h5⟩)

/-- make([]T, n): so many zero values. -/
theorem wpList_mk {P : Program} {w : World} {ops : Array Oper} {rest : List Oper} {o : Oper} {a : Act} {Q : Exit → Act → World → Prop} (hgd : o.guard = .none) (l c : Operand)
    {t e : TypeId} {z : Value} {bytes : Nat} (I : EI P t e z 1 bytes) (ho : o.op = Op.makeSlice t l c) (hz1 : z.cells = #[z]) {kl kc : IntKind} {L C : Int} (n : Nat)
    (hl : a.eval l = .int kl L) (hc : a.eval c = .int kc C) (hL : L = (n : Int)) (hC : C = (n : Int)) (b2 : bytes * n ≤ 281474976710656) (b3 : n ≤ maxLen)
    (h : (w.alloc (.cells (List.replicate n z).toArray e)).heap[w.heap.size]? = some (.cells (List.replicate n z).toArray e (0, 0)) → wpList P ops Q rest (a.put o.dst (.slice (some ⟨w.heap.size, 0, .none⟩) n n)) (w.alloc (.cells (List.replicate n z).toArray e))) :
    wpList P ops Q (o :: rest) a w := by
  refine wpList_plain hgd fun K hK => ?_
  obtain ⟨ht, ⟨i, hi, hz, hsize, hby⟩, hzs, hpos⟩ := I
  subst hby
  subst hL
  subst hC
  have h63' : (n : Int) ≤ 9223372036854775807 := by simp only [maxLen] at b3; omega
  have hb' : (i.bytes : Int) * (n : Int) ≤ 281474976710656 := by
    have h : ((i.bytes * n : Nat) : Int) ≤ 281474976710656 := by omega
    rwa [Int.natCast_mul] at h
  have hr := run_make (P := P) w t e i z ht hi hz kl kc n n (by omega) (Int.le_refl _) hb' h63'
  have hm : madeCells z.cells ((n : Int).toNat * i.size) = (List.replicate n z).toArray := by
    apply Array.ext'
    rw [hz1, hsize]
    simp [toList_madeCells_one]
  rw [hm] at hr
  simp only [Int.toNat_natCast] at hr
  unfold Oper.wp
  simp [execOp, ho, hl, hc, hr, Result.andThen]
  exact hK _ _ (h (heap_alloc_new w _))

/-- b[lo:hi] of a slice: what is read there. -/
theorem Sv.sub {w : World} {t sz : Nat} {a : Option Addr} {n c : Nat} {xs : List Value} (h : Sv w t sz a n c xs) (lo hi m : Nat) (h1 : lo ≤ hi) (h2 : hi ≤ n) (h3 : hi ≤ m) (h4 : m ≤ c) :
    Sv w t sz (if m = lo then a else a.map (·.add (lo * sz))) (hi - lo) (m - lo) ((xs.drop (lo * sz)).take ((hi - lo) * sz)) := by
  refine { len := ?_, le := by omega, cap := by have := h.cap; omega, nil := ?_, cells := ?_ }
  · rw [List.length_take, List.length_drop, h.len]
    have : hi * sz ≤ n * sz := Nat.mul_le_mul_right _ h2
    rw [Nat.sub_mul]; omega
  · intro e
    split at e
    · omega
    · have : a = none := by simpa using e
      have := h.nil this
      omega
  · intro ad e
    split at e
    · obtain ⟨hs, cur, t', fz, hb, hx⟩ := h.cells ad e
      refine ⟨hs, cur, t', fz, hb, ?_⟩
      intro i u hu
      have : hi - lo = 0 := by omega
      simp [this] at hu
    · cases a with
      | none => simp at e
      | some ad0 =>
        obtain ⟨hs, cur, t', fz, hb, hx⟩ := h.cells ad0 rfl
        obtain ⟨b0, o0, s0⟩ := ad0
        simp at hs; subst hs
        simp only [Option.map_some, Option.some.injEq] at e
        rw [Addr.add_lit] at e
        subst e
        refine ⟨rfl, cur, t', fz, hb, ?_⟩
        intro i u hu
        have hlt := (List.getElem?_eq_some_iff.1 hu).1
        simp only [List.length_take, List.length_drop] at hlt
        rw [List.getElem?_take_of_lt (by omega), List.getElem?_drop] at hu
        have := hx _ _ hu
        simp only at this ⊢
        rw [Nat.add_assoc]; exact this

theorem Addr.add_block (a : Addr) (n : Nat) : (a.add n).block = a.block := by
  unfold Addr.add; split <;> rfl
theorem sub_in {a : Option Addr} {lo m sz k : Nat} (h : In (if m = lo then a else a.map (·.add (lo * sz))) k) : In a k := by
  obtain ⟨ad, e, hb⟩ := h
  split at e
  · exact ⟨ad, e, hb⟩
  · cases a with
    | none => simp at e
    | some ad0 => simp at e; subst e; exact ⟨ad0, rfl, by rw [← hb, Addr.add_block]⟩

theorem run_slice_gen {P : Program} (w : World) {t e : TypeId} {z : Value} {sz bytes : Nat} (I : EI P t e z sz bytes) (a : Option Addr) (n c lo hi m : Nat) (low high max : Option Value)
    (hb : (Instr.sliceBounds true n c low high max).run P w = .ok (lo, hi, m) w) :
    (Instr.sliceAt t (.slice a n c) low high max).run P w = .ok (.slice (if m = lo then a else a.map (·.add (lo * sz))) (hi - lo) (m - lo)) w := by
  obtain ⟨ht, ⟨i, hi, hz, hsize, hby⟩, hzs, hpos⟩ := I
  simp [Instr.sliceAt, Instr.slice, run_underlying ht, hb, Result.andThen, sizeOf, typeInfo, hi, hsize]

/-- What a slicing leaves. -/
structure SubOut (w : World) (e sz : Nat) (a a' : Option Addr) (k c' : Nat) (zs : List Value) : Prop where
  sv : Sv w e sz a' k c' zs
  sub : ∀ k, In a' k → In a k

/-- A slicing operation: the value is a slice that reads as the part. -/
theorem wpList_sub {P : Program} {w : World} {ops : Array Oper} {rest : List Oper} {o : Oper} {a : Act} {Q : Exit → Act → World → Prop} (hgd : o.guard = .none) (x : Operand) (low high max : Option Operand)
    {t e : TypeId} {z : Value} {sz bytes : Nat} (I : EI P t e z sz bytes) (ho : o.op = .slice t x low high max) {a1 : Option Addr} {n c : Nat} {xs : List Value} (hx : a.eval x = .slice a1 n c)
    (hsv : Sv w e sz a1 n c xs) (lo hi m : Nat) (h1 : lo ≤ hi) (h2 : hi ≤ n) (h3 : hi ≤ m) (h4 : m ≤ c)
    (hb : (Instr.sliceBounds true n c (low.map a.eval) (high.map a.eval) (max.map a.eval)).run P w = .ok (lo, hi, m) w)
    (h : ∀ a', SubOut w e sz a1 a' (hi - lo) (m - lo) ((xs.drop (lo * sz)).take ((hi - lo) * sz)) → wpList P ops Q rest (a.put o.dst (.slice a' (hi - lo) (m - lo))) w) :
    wpList P ops Q (o :: rest) a w := by
  refine wpList_plain hgd fun K hK => ?_
  have hr := run_slice_gen (P := P) w I a1 n c lo hi m _ _ _ hb
  unfold Oper.wp
  simp [execOp, ho, hx, hr, Result.andThen]
  exact hK _ _ (h _ ⟨hsv.sub lo hi m h1 h2 h3 h4, fun k hk => sub_in hk⟩)

theorem own_lit (w : World) (vs : List Value) (t n : Nat) (hn : vs.length = n) (h : n ≤ maxLen) : Own (w.alloc (.cells vs.toArray t)) t 1 (some ⟨w.heap.size, 0, none⟩) n n vs := by
  have := Own.row (sz := 1) (n := n) (heap_alloc_new w (.cells vs.toArray t)) (by simp [hn]) h
  simpa using this
theorem new_alloc (w : World) : New w.heap.size (some ⟨w.heap.size, 0, none⟩) := fun ad e => by cases e; exact Nat.le_refl _
/-- A length that an append may come to. -/
structure Lim (n : Nat) : Prop where
  le : n ≤ 140737488355328
theorem Lim.maxLen {n : Nat} (h : Lim n) : n ≤ maxLen := by have := h.le; simp only [Go.maxLen]; omega
theorem Lim.of {n m : Nat} (h : Lim n) (k : m ≤ n) : Lim m := ⟨Nat.le_trans k h.le⟩
/-- Bytes as a list of numbers. -/
def bv (l : List Int) : List Value := l.map (Value.int .u8)
theorem length_bv (l : List Int) : (bv l).length = l.length := by simp [bv]
theorem bv_one (l : List Int) : ∀ u ∈ bv l, u.oneCell' = true := by
  intro u hu
  obtain ⟨_, _, rfl⟩ := List.mem_map.1 hu
  rfl
theorem bv_append (a b : List Int) : bv (a ++ b) = bv a ++ bv b := by simp [bv]
theorem bv_take (n : Nat) (l : List Int) : (bv l).take n = bv (l.take n) := by simp [bv]
theorem bv_drop (n : Nat) (l : List Int) : (bv l).drop n = bv (l.drop n) := by simp [bv]
theorem bv_inj {a b : List Int} (h : bv a = bv b) : a = b := by
  have : Function.Injective (Value.int .u8) := fun x y e => by cases e; rfl
  exact List.map_inj_right (fun x y e => this e) |>.1 h
theorem getElem?_bv (l : List Int) (i : Nat) (h : i < l.length) : (bv l)[i]? = some (.int .u8 (l.getD i 0)) := by
  simp [bv, h, List.getD]

end Go.Proofs.YtladijfaeieidaaDoor
