/- The hash functions' arithmetic as plain functions of numbers and lists (no program in sight), and rows of numbers in memory. No condition. -/
import Derived.Test.YtladijfaeieidaaDoorC2
namespace Go.Proofs.YtladijfaeieidaaDoor
open Go.RowKit

def a32 (x y : Int) : Int := (x + y) % 4294967296
def a64 (x y : Int) : Int := IntKind.u64.wrap (x + y)
def not32 (x : Int) : Int := bits .xor .u32 (if IntKind.u32.signed = true then -1 else IntKind.u32.max) x
def not64 (x : Int) : Int := bits .xor .u64 (if IntKind.u64.signed = true then -1 else IntKind.u64.max) x

/-- SHA-256's small functions. -/
def sg0 (x : Int) : Int := bits .xor .u32 (bits .xor .u32 (p32_7 x) (p32_18 x)) (x / 8)
def sg1 (x : Int) : Int := bits .xor .u32 (bits .xor .u32 (p32_17 x) (p32_19 x)) (x / 1024)
def Sg0 (x : Int) : Int := bits .xor .u32 (bits .xor .u32 (p32_2 x) (p32_13 x)) (p32_22 x)
def Sg1 (x : Int) : Int := bits .xor .u32 (bits .xor .u32 (p32_6 x) (p32_11 x)) (p32_25 x)
def ch32 (e f g : Int) : Int := bits .xor .u32 (bits .and .u32 e f) (bits .and .u32 (not32 e) g)
def mj32 (a b c : Int) : Int := bits .xor .u32 (bits .xor .u32 (bits .and .u32 a b) (bits .and .u32 a c)) (bits .and .u32 b c)
/-- SHA-512's. -/
def tg0 (x : Int) : Int := bits .xor .u64 (bits .xor .u64 (p64_1 x) (p64_8 x)) (x / 128)
def tg1 (x : Int) : Int := bits .xor .u64 (bits .xor .u64 (p64_19 x) (p64_61 x)) (x / 64)
def Tg0 (x : Int) : Int := bits .xor .u64 (bits .xor .u64 (p64_28 x) (p64_34 x)) (p64_39 x)
def Tg1 (x : Int) : Int := bits .xor .u64 (bits .xor .u64 (p64_14 x) (p64_18 x)) (p64_41 x)
def ch64 (e f g : Int) : Int := bits .xor .u64 (bits .and .u64 e f) (bits .and .u64 (not64 e) g)
def mj64 (a b c : Int) : Int := bits .xor .u64 (bits .xor .u64 (bits .and .u64 a b) (bits .and .u64 a c)) (bits .and .u64 b c)

/-- The next word of a schedule, of the words before it. -/
def nw256 (s : List Int) (t : Nat) : Int := a32 (a32 (a32 (s.getD (t - 16) 0) (sg0 (s.getD (t - 15) 0))) (s.getD (t - 7) 0)) (sg1 (s.getD (t - 2) 0))
def nw512 (s : List Int) (t : Nat) : Int := a64 (a64 (a64 (s.getD (t - 16) 0) (tg0 (s.getD (t - 15) 0))) (s.getD (t - 7) 0)) (tg1 (s.getD (t - 2) 0))
def nw1 (s : List Int) (t : Nat) : Int := q32_1 (bits .xor .u32 (bits .xor .u32 (bits .xor .u32 (s.getD (t - 3) 0) (s.getD (t - 8) 0)) (s.getD (t - 14) 0)) (s.getD (t - 16) 0))
/-- A block's schedule, its first t words: n bytes to a word. -/
def sched (n : Nat) (nw : List Int → Nat → Int) (blk : List Int) : Nat → List Int
  | 0 => []
  | t + 1 => sched n nw blk t ++ [if t < 16 then be ((blk.drop (n * t)).take n) else nw (sched n nw blk t) t]
theorem length_sched (n : Nat) (nw : List Int → Nat → Int) (blk : List Int) : ∀ t, (sched n nw blk t).length = t
  | 0 => rfl
  | t + 1 => by simp [sched, length_sched n nw blk t]
/-- The table of constants. -/
def K (t : Nat) : Int := ([4794697086780616226, 8158064640168781261, 13096744586834688815, 16840607885511220156, 4131703408338449720, 6480981068601479193, 10538285296894168987, 12329834152419229976, 15566598209576043074, 1334009975649890238, 2608012711638119052, 6128411473006802146, 8268148722764581231, 9286055187155687089, 11230858885718282805, 13951009754708518548, 16472876342353939154, 17275323862435702243, 1135362057144423861, 2597628984639134821, 3308224258029322869, 5365058923640841347, 6679025012923562964, 8573033837759648693, 10970295158949994411, 12119686244451234320, 12683024718118986047, 13788192230050041572, 14330467153632333762, 15395433587784984357, 489312712824947311, 1452737877330783856, 2861767655752347644, 3322285676063803686, 5560940570517711597, 5996557281743188959, 7280758554555802590, 8532644243296465576, 9350256976987008742, 10552545826968843579, 11727347734174303076, 12113106623233404929, 14000437183269869457, 14369950271660146224, 15101387698204529176, 15463397548674623760, 17586052441742319658, 1182934255886127544, 1847814050463011016, 2177327727835720531, 2830643537854262169, 3796741975233480872, 4115178125766777443, 5681478168544905931, 6601373596472566643, 7507060721942968483, 8399075790359081724, 8693463985226723168, 9568029438360202098, 10144078919501101548, 10430055236837252648, 11840083180663258601, 13761210420658862357, 14299343276471374635, 14566680578165727644, 15097957966210449927, 16922976911328602910, 17689382322260857208, 500013540394364858, 748580250866718886, 1242879168328830382, 1977374033974150939, 2944078676154940804, 3659926193048069267, 4368137639120453308, 4836135668995329356, 5532061633213252278, 6448918945643986474, 6902733635092675308, 7801388544844847127] : List Int).getD t 0

/-- One round over eight words. -/
def rd256 (k w : Int) (v : List Int) : List Int :=
  let a := v.getD 0 0; let b := v.getD 1 0; let c := v.getD 2 0; let d := v.getD 3 0; let e := v.getD 4 0; let f := v.getD 5 0; let g := v.getD 6 0; let h := v.getD 7 0
  let t := a32 (a32 (a32 (a32 h (Sg1 e)) (ch32 e f g)) k) w
  let u := a32 (Sg0 a) (mj32 a b c)
  [a32 t u, a, b, c, a32 d t, e, f, g]
def rd512 (k w : Int) (v : List Int) : List Int :=
  let a := v.getD 0 0; let b := v.getD 1 0; let c := v.getD 2 0; let d := v.getD 3 0; let e := v.getD 4 0; let f := v.getD 5 0; let g := v.getD 6 0; let h := v.getD 7 0
  let t := a64 (a64 (a64 (a64 h (Tg1 e)) (ch64 e f g)) k) w
  let u := a64 (Tg0 a) (mj64 a b c)
  [a64 t u, a, b, c, a64 d t, e, f, g]
/-- One round of SHA-1 over five words. -/
def f1 (t : Nat) (b c d : Int) : Int :=
  if t < 20 then bits .or .u32 (bits .and .u32 b c) (bits .and .u32 (not32 b) d)
  else if t < 40 then bits .xor .u32 (bits .xor .u32 b c) d
  else if t < 60 then bits .or .u32 (bits .or .u32 (bits .and .u32 b c) (bits .and .u32 b d)) (bits .and .u32 c d)
  else bits .xor .u32 (bits .xor .u32 b c) d
def k1 (t : Nat) : Int := if t < 20 then 1518500249 else if t < 40 then 1859775393 else if t < 60 then 2400959708 else 3395469782
def rd1 (t : Nat) (w : Int) (v : List Int) : List Int :=
  let a := v.getD 0 0; let b := v.getD 1 0; let c := v.getD 2 0; let d := v.getD 3 0; let e := v.getD 4 0
  [a32 (a32 (a32 (a32 (q32_5 a) (f1 t b c d)) e) (k1 t)) w, a, q32_30 b, c, d]

/-- The first t rounds, from v on, with the schedule s. -/
def rounds256 (s v : List Int) : Nat → List Int
  | 0 => v
  | t + 1 => rd256 (K t / 4294967296) (s.getD t 0) (rounds256 s v t)
def rounds512 (s v : List Int) : Nat → List Int
  | 0 => v
  | t + 1 => rd512 (K t) (s.getD t 0) (rounds512 s v t)
def rounds1 (s v : List Int) : Nat → List Int
  | 0 => v
  | t + 1 => rd1 t (s.getD t 0) (rounds1 s v t)
/-- A block taken in. -/
def take256 (v blk : List Int) : List Int := List.zipWith a32 v (rounds256 (sched 4 nw256 blk 64) v 64)
def take512 (v blk : List Int) : List Int := List.zipWith a64 v (rounds512 (sched 8 nw512 blk 80) v 80)
def take1 (v blk : List Int) : List Int := List.zipWith a32 v (rounds1 (sched 4 nw1 blk 80) v 80)

theorem length_rd256 (k w : Int) (v : List Int) : (rd256 k w v).length = 8 := rfl
theorem length_rd512 (k w : Int) (v : List Int) : (rd512 k w v).length = 8 := rfl
theorem length_rd1 (t : Nat) (w : Int) (v : List Int) : (rd1 t w v).length = 5 := rfl
theorem length_rounds256 (s v : List Int) (h : v.length = 8) : ∀ t, (rounds256 s v t).length = 8
  | 0 => h
  | _ + 1 => rfl
theorem length_rounds512 (s v : List Int) (h : v.length = 8) : ∀ t, (rounds512 s v t).length = 8
  | 0 => h
  | _ + 1 => rfl
theorem length_rounds1 (s v : List Int) (h : v.length = 5) : ∀ t, (rounds1 s v t).length = 5
  | 0 => h
  | _ + 1 => rfl

theorem eight (l : List Int) (h : l.length = 8) : ∃ a b c d e f g i, l = [a, b, c, d, e, f, g, i] := by
  match l, h with
  | [a, b, c, d, e, f, g, i], _ => exact ⟨a, b, c, d, e, f, g, i, rfl⟩
theorem five (l : List Int) (h : l.length = 5) : ∃ a b c d e, l = [a, b, c, d, e] := by
  match l, h with
  | [a, b, c, d, e], _ => exact ⟨a, b, c, d, e, rfl⟩

/-- An equation kept from the walk. -/
structure Eqn {α : Type} (a b : α) : Prop where
  out : a = b
/-- Block g is a row of values of type t, none of them shared with a string. -/
structure RB (w : World) (g t : Nat) (l : List Value) : Prop where
  heap : w.heap[g]? = some (.cells l.toArray t (0, 0))
theorem RB.mods {S : Nat → Prop} {w w' : World} {g t : Nat} {l : List Value} (h : RB w g t l) (hm : Mods S w w') (hn : ¬ S g) : RB w' g t l := ⟨hm.heap h.heap hn⟩
theorem RB.cell {w : World} {g t : Nat} {l : List Value} (h : RB w g t l) {i : Nat} {v : Value} (hv : l[i]? = some v) : w.cell? ⟨g, i, none⟩ = some v := by
  rw [cell_of_row w g i _ t _ h.heap]; simpa using hv
theorem RB.free {w : World} {g t : Nat} {l : List Value} (h : RB w g t l) (i : Nat) : w.frozen? ⟨g, i, none⟩ = false := frozen_of_row w g i _ t h.heap
theorem RB.set {w : World} {g t : Nat} {l : List Value} (h : RB w g t l) (i : Nat) (v : Value) : RB (w.setCell ⟨g, i, none⟩ v) g t (l.set i v) := by
  have := heap_setCell_same w g i l.toArray t v h.heap
  exact ⟨by rw [this]; simp⟩
theorem RB.other {w : World} {g t : Nat} {l : List Value} (h : RB w g t l) {a : Addr} (v : Value) (hg : g ≠ a.block) : RB (w.setCell a v) g t l := ⟨(heap_setCell_other w a g v hg).trans h.heap⟩
theorem RB.drew {w : World} {g t : Nat} {l : List Value} (h : RB w g t l) : RB w.drew g t l := ⟨h.heap⟩
theorem RB.drewN {w : World} {g t : Nat} {l : List Value} (h : RB w g t l) (n : Nat) : RB (w.drewN n) g t l := ⟨h.heap⟩
theorem RB.alloc {w : World} {g t : Nat} {l : List Value} (h : RB w g t l) (o : Obj) : RB (w.alloc o) g t l := ⟨(Below.heap_alloc w o g (lt_heap h.heap)).trans h.heap⟩
theorem RB.new (w : World) (l : List Value) (t : Nat) : RB (w.alloc (.cells l.toArray t)) w.heap.size t l := ⟨heap_alloc_new w _⟩
theorem RB.lt {w : World} {g t : Nat} {l : List Value} (h : RB w g t l) : g < w.heap.size := lt_heap h.heap

/-- A row of numbers. -/
structure IB (w : World) (g t : Nat) (k : IntKind) (l : List Int) : Prop where
  row : RB w g t (l.map (Value.int k))
theorem IB.cell {w : World} {g t : Nat} {k : IntKind} {l : List Int} (h : IB w g t k l) (i : Nat) (hi : i < l.length) : ∃ x, Eqn x (l.getD i 0) ∧ w.cell? ⟨g, i, none⟩ = some (.int k x) :=
  ⟨_, ⟨rfl⟩, h.row.cell (by simp [hi, List.getD])⟩
theorem IB.free {w : World} {g t : Nat} {k : IntKind} {l : List Int} (h : IB w g t k l) (i : Nat) : w.frozen? ⟨g, i, none⟩ = false := h.row.free i
theorem IB.set {w : World} {g t : Nat} {k : IntKind} {l : List Int} (h : IB w g t k l) (i : Nat) (v : Int) : IB (w.setCell ⟨g, i, none⟩ (.int k v)) g t k (l.set i v) :=
  ⟨by rw [List.map_set]; exact h.row.set i _⟩
theorem IB.other {w : World} {g t : Nat} {k : IntKind} {l : List Int} (h : IB w g t k l) {a : Addr} (v : Value) (hg : g ≠ a.block) : IB (w.setCell a v) g t k l := ⟨h.row.other v hg⟩
theorem IB.drew {w : World} {g t : Nat} {k : IntKind} {l : List Int} (h : IB w g t k l) : IB w.drew g t k l := ⟨h.row.drew⟩
theorem IB.drewN {w : World} {g t : Nat} {k : IntKind} {l : List Int} (h : IB w g t k l) (n : Nat) : IB (w.drewN n) g t k l := ⟨h.row.drewN n⟩
theorem IB.alloc {w : World} {g t : Nat} {k : IntKind} {l : List Int} (h : IB w g t k l) (o : Obj) : IB (w.alloc o) g t k l := ⟨h.row.alloc o⟩
theorem IB.new (w : World) (l : List Int) (k : IntKind) (t : Nat) : IB (w.alloc (.cells (l.map (Value.int k)).toArray t)) w.heap.size t k l := ⟨RB.new w _ t⟩
theorem IB.mods {S : Nat → Prop} {w w' : World} {g t : Nat} {k : IntKind} {l : List Int} (h : IB w g t k l) (hm : Mods S w w') (hn : ¬ S g) : IB w' g t k l := ⟨h.row.mods hm hn⟩
theorem IB.lt {w : World} {g t : Nat} {k : IntKind} {l : List Int} (h : IB w g t k l) : g < w.heap.size := h.row.lt

/-- The place behind what is there takes the next one. -/
theorem set_next (s : List Int) (t n : Nat) (v : Int) (hs : s.length = t) (ht : t < n) : (s ++ List.replicate (n - t) 0).set t v = (s ++ [v]) ++ List.replicate (n - (t + 1)) 0 := by
  subst hs
  rw [show n - s.length = (n - (s.length + 1)) + 1 from by omega, List.replicate_succ, List.set_append_right _ _ (Nat.le_refl _)]
  simp
theorem getD_front (s r : List Int) (i : Nat) (h : i < s.length) : (s ++ r).getD i 0 = s.getD i 0 := by
  simp [List.getD, List.getElem?_append_left h]

/-- The part of a slice from a place within it on. -/
theorem Sv.tail {w : World} {t b o n c : Nat} {xs : List Value} (h : Sv w t 1 (some ⟨b, o, none⟩) n c xs) (lo : Nat) (h1 : lo ≤ n) (h2 : lo < c) : Sv w t 1 (some ⟨b, o + lo, none⟩) (n - lo) (c - lo) (xs.drop lo) := by
  have := h.sub lo n c h1 (Nat.le_refl _) h.le (Nat.le_refl _)
  rw [if_neg (by omega)] at this
  simp only [Option.map_some, Addr.add_lit, Nat.mul_one] at this
  rwa [List.take_of_length_le (by rw [List.length_drop, h.len]; omega)] at this

/-- A whole array read out of its block. -/
theorem wpList_arr {P : Program} {w : World} {ops : Array Oper} {rest : List Oper} {o : Oper} {a : Act} {Q : Exit → Act → World → Prop} (hgd : o.guard = none) (ty : TypeId) (x : Operand) (ho : o.op = .load ty x)
    {g t : Nat} {l : List Value} (hr : RB w g t l) (hx : a.eval x = .pointer (some ⟨g, 0, none⟩)) (n e : Nat) (hu : P.underlying ty = some (.array n e)) (hsz : P.cellsOf ty = l.length) (hi : (P.info? ty).isSome = true)
    (h : wpList P ops Q rest (a.put o.dst (.agg l.toArray)) w) : wpList P ops Q (o :: rest) a w := by
  refine wpList_plain hgd fun K hK => ?_
  obtain ⟨i, hi⟩ := Option.isSome_iff_exists.1 hi
  have hsz' : i.size = l.length := by simpa [Program.cellsOf, hi] using hsz
  have hl := run_loadCells_list (P := P) w ⟨g, 0, none⟩ l (by intro j v hv; rw [Addr.add_lit]; simpa using hr.cell hv)
  unfold Oper.wp
  simp [execOp, ho, hx, Instr.loadAt, Instr.sureAddr, loadVar, isAgg, run_underlying hu, sizeOf, typeInfo, hi, hsz', hl, Result.andThen]
  exact hK _ _ h
/-- An element of an array value whose elements are one cell each. -/
theorem wpList_idx {P : Program} {w : World} {ops : Array Oper} {rest : List Oper} {o : Oper} {a : Act} {Q : Exit → Act → World → Prop} (hgd : o.guard = none) (ty : TypeId) (x i : Operand) (ho : o.op = .index ty x i)
    {l : List Value} (n e : Nat) (hu : P.underlying ty = some (.array n e)) (kd : IntKind) (hue : P.underlying e = some (.int kd)) (he : (P.info? e).map (·.size) = some 1)
    (k : Nat) {q : IntKind} {I : Int} (hx : a.eval x = .agg l.toArray) (hi : a.eval i = .int q I) (hI : I = (k : Int)) (hk : k < n) (v : Value) (hv : l[k]? = some v)
    (h : wpList P ops Q rest (a.put o.dst v) w) : wpList P ops Q (o :: rest) a w := by
  refine wpList_plain hgd fun K hK => ?_
  subst hI
  obtain ⟨ie, hie, hs1⟩ := Option.map_eq_some_iff.1 he
  unfold Oper.wp
  simp [execOp, ho, hx, hi, Instr.index, asIntOf, run_underlying hu, run_underlying hue, sizeOf, typeInfo, hie, hs1, hk, part, isAgg, hv, Result.andThen]
  exact hK _ _ h

/-- The table of constants stands in its variable. -/
structure GK (w : World) : Prop where
  cell : ∀ i, i < 80 → w.cell? ⟨0, i, none⟩ = some (.int .u64 (K i))
theorem GK.mods {S : Nat → Prop} {w w' : World} (h : GK w) (hm : Mods S w w') (hn : ¬ S 0) : GK w' := ⟨fun i hi => hm.cell (h.cell i hi) hn⟩
/-- A number of 64 bits as one of 32. -/
def c32 (x : Int) : Int := x % 4294967296
/-- The cells of a state. -/
def hst (kd : Int) (hs : List Int) (wt cn : Value) : List Value := .int .i64 kd :: (hs.map (Value.int .u64) ++ [wt, cn])
theorem GK.ne {w : World} (h : GK w) {b t : Nat} {kd : Int} {hs : List Int} {wt cn : Value} (hr : RB w b t (hst kd hs wt cn)) : b ≠ 0 := by
  rintro rfl
  have h1 := h.cell 0 (by omega)
  rw [hr.cell (i := 0) rfl] at h1
  simp at h1
theorem hst_get {w : World} {b : Nat} {kd : Int} {hs : List Int} {wt cn : Value} (h : RB w b 112 (hst kd hs wt cn)) (t : Nat) (ht : t < hs.length) : ∃ x, Eqn x (hs.getD t 0) ∧ w.cell? ⟨b, 1 + t, none⟩ = some (.int .u64 x) :=
  ⟨_, ⟨rfl⟩, h.cell (by simp [hst, Nat.add_comm 1 t, List.getElem?_append_left, ht, List.getD])⟩
theorem hst_set {w : World} {b : Nat} {kd : Int} {hs : List Int} {wt cn : Value} (h : RB w b 112 (hst kd hs wt cn)) (t : Nat) (v : Int) (ht : t < hs.length) : RB (w.setCell ⟨b, 1 + t, none⟩ (.int .u64 v)) b 112 (hst kd (hs.set t v) wt cn) := by
  have h2 := h.set (1 + t) (.int .u64 v)
  have e : (hst kd hs wt cn).set (1 + t) (.int .u64 v) = hst kd (hs.set t v) wt cn := by
    rw [Nat.add_comm 1 t]
    simp [hst, List.set_append_left, ht, List.map_set]
  rwa [e] at h2
theorem take_next (L : List Int) (t n : Nat) (v : Int) (ht : t < n) (hl : t < L.length) (hv : Eqn v (L.getD t 0)) : (L.take t ++ List.replicate (n - t) 0).set t v = L.take (t + 1) ++ List.replicate (n - (t + 1)) 0 := by
  rw [set_next (L.take t) t n v (by simp; omega) ht, hv.out, List.take_add_one]
  simp [hl, List.getD]
/-- One place more of a list is that of another list. -/
theorem set_over {α : Type} (R L : List α) (t : Nat) (v : α) (hl : R.length = L.length) (ht : t < L.length) (hv : R[t]? = some v) : (R.take t ++ L.drop t).set t v = R.take (t + 1) ++ L.drop (t + 1) := by
  rw [List.set_append_right _ _ (by simp; omega)]
  rw [List.take_add_one, hv]
  have e : t - (R.take t).length = 0 := by simp; omega
  rw [e, List.drop_eq_getElem_cons ht, List.set_cons_zero]
  simp
theorem GK.lt {w : World} (h : GK w) : 0 < w.heap.size := World.block_lt_of_cell? w _ (h.cell 0 (by omega))
end Go.Proofs.YtladijfaeieidaaDoor
