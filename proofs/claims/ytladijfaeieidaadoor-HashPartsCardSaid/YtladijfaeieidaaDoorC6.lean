/- Contracts: a hash object (New, Copy, take). Condition: a kind from 1 to 5. -/
import Derived.Test.YtladijfaeieidaaDoorC5
namespace Go.Proofs.YtladijfaeieidaaDoor
open Go.RowKit

/-- A kind of hash function. -/
structure Kd (k : Int) : Prop where
  one : 1 ≤ k
  five : k ≤ 5
theorem hbl_pos {k : Int} (h : Kd k) : 0 < hbl k := by
  obtain rfl | rfl | rfl | rfl | rfl : k = 1 ∨ k = 2 ∨ k = 3 ∨ k = 4 ∨ k = 5 := by have := h.one; have := h.five; omega
  all_goals decide
theorem hsz_pos {k : Int} (h : Kd k) : 0 < hsz k := by
  obtain rfl | rfl | rfl | rfl | rfl : k = 1 ∨ k = 2 ∨ k = 3 ∨ k = 4 ∨ k = 5 := by have := h.one; have := h.five; omega
  all_goals decide
/-- One block taken in. -/
def blk1 (k : Int) (hs b : List Int) : List Int :=
  if k = 1 then take1 ((hs.take 5).map c32) b ++ hs.drop 5
  else if k ≤ 3 then take256 (hs.map c32) b
  else take512 hs b
/-- The state after t blocks. -/
def eatN (k : Int) (m : List Int) : Nat → List Int
  | 0 => init k
  | t + 1 => blk1 k (eatN k m t) (piece m (hbl k) t)
theorem length_take1 (v b : List Int) (h : v.length = 5) : (take1 v b).length = 5 := by
  simp [take1, length_rounds1 _ _ h, h]
theorem length_take256 (v b : List Int) (h : v.length = 8) : (take256 v b).length = 8 := by
  simp [take256, length_rounds256 _ _ h, h]
theorem length_take512 (v b : List Int) (h : v.length = 8) : (take512 v b).length = 8 := by
  simp [take512, length_rounds512 _ _ h, h]
theorem length_blk1 (k : Int) (hs b : List Int) (h : hs.length = 8) : (blk1 k hs b).length = 8 := by
  unfold blk1
  split
  · rw [List.length_append, length_take1 _ _ (by simp [h])]; simp [h]
  · split
    · exact length_take256 _ _ (by simp [h])
    · exact length_take512 _ _ h
theorem length_eatN (k : Int) (m : List Int) : ∀ t, (eatN k m t).length = 8
  | 0 => length_init k
  | t + 1 => length_blk1 _ _ _ (length_eatN k m t)
theorem piece_app (m l : List Int) (b t : Nat) (h : b * (t + 1) ≤ m.length) : piece (m ++ l) b t = piece m b t := by
  have : b * (t + 1) = b * t + b := by rw [Nat.mul_add, Nat.mul_one]
  simp only [piece]
  rw [List.drop_append_of_le_length (by omega), List.take_append_of_le_length (by rw [List.length_drop]; omega)]
theorem eatN_app (k : Int) (m l : List Int) : ∀ t, hbl k * t ≤ m.length → eatN k (m ++ l) t = eatN k m t
  | 0, _ => rfl
  | t + 1, h => by
    have : hbl k * (t + 1) = hbl k * t + hbl k := by rw [Nat.mul_add, Nat.mul_one]
    rw [eatN, eatN, eatN_app k m l t (by omega), piece_app m l _ _ h]
theorem piece_drop (m : List Int) (b q t : Nat) : piece (m.drop (b * q)) b t = piece m b (q + t) := by
  simp [piece, List.drop_drop, Nat.mul_add]

/-- The hash object of kind k in block b, with its waiting bytes at a, has taken in the message m. -/
structure HO (w : World) (b : Nat) (a : Option Addr) (k : Int) (m : List Int) : Prop where
  kind : Kd k
  byt : Byt m
  lim : Lim m.length
  ex : ∃ n c, n = (m.drop (hbl k * (m.length / hbl k))).length ∧ RB w b 112 (hst k (eatN k m (m.length / hbl k)) (.slice a n c) (.int .u64 m.length)) ∧ Own w 5 1 a n c (bv (m.drop (hbl k * (m.length / hbl k))))
  sep : ¬ In a b
  glob : ¬ In a 0
theorem HO.mods {S : Nat → Prop} {w w' : World} {b : Nat} {a : Option Addr} {k : Int} {m : List Int} (h : HO w b a k m) (hm : Mods S w w') (hb : ¬ S b) (ha : ∀ i, In a i → ¬ S i) : HO w' b a k m := by
  obtain ⟨n, c, h1, h2, h3⟩ := h.ex
  exact ⟨h.kind, h.byt, h.lim, ⟨n, c, h1, h2.mods hm hb, h3.mods hm ha⟩, h.sep, h.glob⟩
theorem HO.lt {w : World} {b : Nat} {a : Option Addr} {k : Int} {m : List Int} (h : HO w b a k m) : b < w.heap.size := by
  obtain ⟨n, c, h1, h2, h3⟩ := h.ex
  exact h2.lt
theorem HO.in_lt {w : World} {b : Nat} {a : Option Addr} {k : Int} {m : List Int} (h : HO w b a k m) : ∀ i, In a i → i < w.heap.size := by
  obtain ⟨n, c, h1, h2, h3⟩ := h.ex
  rintro i ⟨ad, e, rfl⟩
  exact h3.toSv.lt ad e

/-- What New leaves. -/
structure NewOut (w w' : World) (b : Nat) (k : Int) : Prop where
  ho : HO w' b none k []
  fresh : w.heap.size ≤ b
  mods : Mods Nix w w'
theorem f31 (w : World) (k : Int) (hk : Kd k) : Calls Tryd.prog 31 #[.int .i64 k] w fun e w' => ∃ b, e = .returned (.pointer (some ⟨b, 0, none⟩)) ∧ NewOut w w' b k := by
  have hz := hsz_pos hk
  go_enter Tryd.func31, Tryd.ntmps31
  go_wp2_with (go_at_call 27; refine (f27 k _).mono ?_; rintro e w' ⟨rfl, rfl⟩)
  obtain ⟨x0, x1, x2, x3, x4, x5, x6, x7, hI⟩ := eight (init k) (length_init k)
  have HI := Eqn.mk hI
  clear hI
  go_wp2_with (go_at_call 89; refine (f89 _ k hk.one hk.five).mono ?_; rintro e w' ⟨he, hM⟩; rw [HI.out] at he; subst he; simp only [List.map_cons, List.map_nil])
  go_ret
  refine ⟨_, rfl, ⟨hk, fun _ h => (by cases h), ⟨by simp⟩, ⟨0, 0, by simp, ?_, by simpa [bv] using Own.none _ 5 1⟩, fun ⟨_, e, _⟩ => (by cases e), fun ⟨_, e, _⟩ => (by cases e)⟩, hM.size, hM.alloc _⟩
  simp only [List.length_nil, Nat.zero_div, eatN, HI.out]
  exact RB.new _ [_, _, _, _, _, _, _, _, _, _, _] 112

theorem f94 (bh : Nat) (k : Int) (hk : Kd k) (hs : List Int) (wt cn : Value) (hlen : hs.length = 8) (blk : List Int) (hblk : blk.length = hbl k) (hB : Byt blk) (a : Option Addr) (c : Nat) (w : World)
  (hp : Sv w 5 1 a (hbl k) c (bv blk)) (hh : RB w bh 112 (hst k hs wt cn)) (hg : GK w) :
  Calls Tryd.prog 94 #[.pointer (some ⟨bh, 0, none⟩), .slice a (hbl k) c] w fun e w' => e = .returned (.tuple #[]) ∧
    RB w' bh 112 (hst k (blk1 k hs blk) wt cn) ∧ Mods (fun k => k = bh) w w' := by
  have hc := hh.cell (i := 0) rfl
  obtain rfl | rfl | rfl | rfl | rfl : k = 1 ∨ k = 2 ∨ k = 3 ∨ k = 4 ∨ k = 5 := by have := hk.one; have := hk.five; omega
  · go_enter Tryd.func94, Tryd.ntmps94
    go_wp2_with (go_at_call 133; refine (f133 bh 1 hs wt cn hlen blk hblk hB a c w hp hh hg).mono ?_; rintro e w' ⟨rfl, h1, h2⟩)
    go_end0
    exact ⟨rfl, h1, h2⟩
  · go_enter Tryd.func94, Tryd.ntmps94
    go_wp2_with (go_at_call 134; refine (f134 bh 2 hs wt cn hlen blk hblk hB a c w hp hh hg).mono ?_; rintro e w' ⟨rfl, h1, h2⟩)
    go_end0
    exact ⟨rfl, h1, h2⟩
  · go_enter Tryd.func94, Tryd.ntmps94
    go_wp2_with (go_at_call 134; refine (f134 bh 3 hs wt cn hlen blk hblk hB a c w hp hh hg).mono ?_; rintro e w' ⟨rfl, h1, h2⟩)
    go_end0
    exact ⟨rfl, h1, h2⟩
  · go_enter Tryd.func94, Tryd.ntmps94
    go_wp2_with (go_at_call 135; refine (f135 bh 4 hs wt cn hlen blk hblk hB a c w hp hh hg).mono ?_; rintro e w' ⟨rfl, h1, h2⟩)
    go_end0
    exact ⟨rfl, h1, h2⟩
  · go_enter Tryd.func94, Tryd.ntmps94
    go_wp2_with (go_at_call 135; refine (f135 bh 5 hs wt cn hlen blk hblk hB a c w hp hh hg).mono ?_; rintro e w' ⟨rfl, h1, h2⟩)
    go_end0
    exact ⟨rfl, h1, h2⟩

/-- A whole struct read out of its block. -/
theorem wpList_str {P : Program} {w : World} {ops : Array Oper} {rest : List Oper} {o : Oper} {a : Act} {Q : Exit → Act → World → Prop} (hgd : o.guard = none) (ty : TypeId) (x : Operand) (ho : o.op = .load ty x)
    {g t : Nat} {l : List Value} (hr : RB w g t l) (hx : a.eval x = .pointer (some ⟨g, 0, none⟩)) (d : TypeDesc) (hu : P.underlying ty = some d) (hd : (match d with | .struct _ | .array _ _ => true | _ => false) = true) (hsz : P.cellsOf ty = l.length) (hi : (P.info? ty).isSome = true)
    (h : wpList P ops Q rest (a.put o.dst (.agg l.toArray)) w) : wpList P ops Q (o :: rest) a w := by
  refine wpList_plain hgd fun K hK => ?_
  obtain ⟨i, hi⟩ := Option.isSome_iff_exists.1 hi
  have hsz' : i.size = l.length := by simpa [Program.cellsOf, hi] using hsz
  have hl := run_loadVar_row (P := P) w g t ty l.toArray (0, 0) d hr.heap hu hd (by simp [hi, hsz'])
  unfold Oper.wp
  simp [execOp, ho, hx, Instr.loadAt, Instr.sureAddr, hl, Result.andThen]
  exact hK _ _ h
theorem c112 : Tryd.prog.cellsOf 112 = 11 := by kernel_rfl
theorem i112 : (Tryd.prog.info? 112).isSome = true := by kernel_rfl

/-- What Copy leaves. -/
structure CopyOut (w w' : World) (b : Nat) (a : Option Addr) (k : Int) (m : List Int) : Prop where
  ho : HO w' b a k m
  fresh : w.heap.size ≤ b
  freshA : New w.heap.size a
  mods : Mods Nix w w'
theorem f33 (w : World) (b : Nat) (a : Option Addr) (k : Int) (m : List Int) (h : HO w b a k m) : Calls Tryd.prog 33 #[.pointer (some ⟨b, 0, none⟩)] w fun e w' => ∃ b' a', e = .returned (.pointer (some ⟨b', 0, none⟩)) ∧ CopyOut w w' b' a' k m := by
  obtain ⟨n, c, h1, h2, h3⟩ := h.ex
  replace h1 := Eqn.mk h1
  have hlt := h2.lt
  obtain ⟨x0, x1, x2, x3, x4, x5, x6, x7, hI⟩ := eight (eatN k m (m.length / hbl k)) (length_eatN k m _)
  have HI := Eqn.mk hI
  rw [hI] at h2
  clear hI
  obtain ⟨cn, hcn⟩ : ∃ cn : Int, Eqn cn m.length := ⟨_, ⟨rfl⟩⟩
  rw [← hcn.out] at h2
  obtain ⟨rest, hrest⟩ : ∃ rest, Eqn rest (m.drop (hbl k * (m.length / hbl k))) := ⟨_, ⟨rfl⟩⟩
  rw [← hrest.out] at h3
  have hLn : Lim n := h.lim.of (by rw [h1.out]; simp)
  have d0 : w.cell? ⟨b, 0, none⟩ = some (.int .i64 k) := h2.cell rfl
  have d1 : w.cell? ⟨b, 1, none⟩ = some (.int .u64 x0) := h2.cell rfl
  have d2 : w.cell? ⟨b, 2, none⟩ = some (.int .u64 x1) := h2.cell rfl
  have d3 : w.cell? ⟨b, 3, none⟩ = some (.int .u64 x2) := h2.cell rfl
  have d4 : w.cell? ⟨b, 4, none⟩ = some (.int .u64 x3) := h2.cell rfl
  have d5 : w.cell? ⟨b, 5, none⟩ = some (.int .u64 x4) := h2.cell rfl
  have d6 : w.cell? ⟨b, 6, none⟩ = some (.int .u64 x5) := h2.cell rfl
  have d7 : w.cell? ⟨b, 7, none⟩ = some (.int .u64 x6) := h2.cell rfl
  have d8 : w.cell? ⟨b, 8, none⟩ = some (.int .u64 x7) := h2.cell rfl
  have d9 : w.cell? ⟨b, 9, none⟩ = some (.slice a n c) := h2.cell rfl
  have d10 : w.cell? ⟨b, 10, none⟩ = some (.int .u64 cn) := h2.cell rfl
  go_enter Tryd.func33, Tryd.ntmps33
  go_wp2_with (go_at_call 93; refine (f93 (h3.toSv.mods (alloc_mods w _) (fun _ _ f => f)) hLn).mono ?_; rintro e w' ⟨a', c', rfl, hO, hN, hM, hnil⟩; have hr := (RB.new w [_, _, _, _, _, _, _, _, _, _, _] 112).mods hM (fun f => f); have hf := hr.free 9; have hc9 := hr.cell (i := 9) rfl)
  go_ret
  have hM' : Mods Nix w w' := ((alloc_mods w _).trans' hM (fun _ _ f => f))
  have hN' : New w.heap.size a' := hN.mono (by simp)
  have hne : ¬ In a' w.heap.size := fun ⟨ad, e, hb⟩ => by have := hN ad e; simp at this; omega
  refine ⟨_, a', rfl, ⟨h.kind, h.byt, h.lim, ⟨n, c', h1.out, ?_, ?_⟩, hne, fun ⟨ad, e, hb⟩ => (by have := hN ad e; simp at this; omega)⟩, Nat.le_refl _, hN', hM'.setCell (.inr (Nat.le_refl _)) _⟩
  · rw [HI.out, ← hcn.out]
    exact hr.set 9 _
  · rw [← hrest.out]
    exact hO.mods ((Mods.refl (fun i => i = w.heap.size) w').setCell (.inl rfl) _) (fun i hi e => hne (e ▸ hi))
end Go.Proofs.YtladijfaeieidaaDoor
