/- Contracts: Sum. Condition: a hash object. -/
import Derived.Test.YtladijfaeieidaaDoorC8
import Derived.Deep.Cut
namespace Go.Proofs.YtladijfaeieidaaDoor
open Go.RowKit

/-- Zero bytes between the mark and the length. -/
def zer (b r n : Nat) : Nat := (b - (n % b + 1 + r) % b) % b
/-- What is put behind a message of n bytes: block size b, r bytes for the length. -/
def padd (b r n : Nat) : List Int := 128 :: (List.replicate (zer b r n) 0 ++ (List.replicate (r - 8) 0 ++ en8 (8 * n)))
/-- The state's bytes. -/
def digest (k : Int) (hs : List Int) : List Int := (hs.flatMap (if hbl k = 64 then fun x => en4 (c32 x) else en8)).take (hsz k)
/-- The hash of a message. -/
def hash (k : Int) (m : List Int) : List Int :=
  digest k (eatN k (m ++ padd (hbl k) (hbl k / 8) m.length) ((m ++ padd (hbl k) (hbl k / 8) m.length).length / hbl k))
theorem hbl_cases {k : Int} (h : Kd k) : hbl k = 64 ∨ hbl k = 128 := by
  obtain rfl | rfl | rfl | rfl | rfl : k = 1 ∨ k = 2 ∨ k = 3 ∨ k = 4 ∨ k = 5 := by have := h.one; have := h.five; omega
  all_goals decide

theorem Own.front {w : World} {t : Nat} {a : Option Addr} {n c : Nat} {xs : List Value} (h : Own w t 1 a n c xs) (m : Nat) (hm : m ≤ n) : Own w t 1 a m c (xs.take m) :=
  { h.toSv.front m hm with head := h.head, free := h.free }
theorem lim_app {n m : Nat} (h : Lim (n + m)) : (n + m) * 1 ≤ 140737488355328 := by have := h.le; omega
theorem byt_en8 (x : Int) : Byt (en8 x) := by
  intro y hy
  simp only [en8, List.mem_cons, List.not_mem_nil, or_false] at hy
  omega
theorem byt_pad (n : Nat) : Byt (128 :: List.replicate n 0) := by
  intro y hy
  simp only [List.mem_cons, List.mem_replicate] at hy
  omega
theorem splice_all (a b : List Value) (h : a.length = b.length) : splice a 0 b = b := by
  simp [splice, ← h]
/-- What stands behind the append of the length to the padding. -/
structure Pd (w w6 : World) (b2 : Nat) (a2 : Option Addr) (k : Int) (m : List Int) (a6 : Option Addr) (n c6 : Nat) (l : List Int) : Prop where
  ho : HO w6 b2 a2 k m
  nin : ¬ In a6 b2
  sv : Sv w6 5 1 a6 n c6 (bv l)
  gk : GK w6
  mods : Mods Nix w w6
theorem h88 : (8 : Int) = ((8 : Nat) : Int) := rfl
theorem hq1 : 1 * 8 ≤ 281474976710656 := by omega
theorem hq2 : 8 ≤ maxLen := by simp only [maxLen]; omega
set_option maxHeartbeats 4000000 in
set_option maxRecDepth 100000 in
theorem f32_64 (w : World) (b : Nat) (a : Option Addr) (k : Int) (m : List Int) (h : HO w b a k m) (hB : hbl k = 64) (hl : Lim (m.length + 300)) (hg : GK w) :
    Calls Tryd.prog 32 #[.pointer (some ⟨b, 0, none⟩)] w fun e w' => ∃ a' c', e = .returned (.slice a' (hsz k) c') ∧ Own w' 5 1 a' (hsz k) c' (bv (hash k m)) ∧ New w.heap.size a' ∧ Mods Nix w w' := by
  obtain ⟨n, c, h1, h2, h3⟩ := h.ex
  replace h1 := Eqn.mk h1
  have d0 := h2.cell (i := 0) rfl
  have hBB := Eqn.mk hB
  clear hB
  have hf29 : ∀ w, Calls Tryd.prog 29 #[.int .i64 k] w fun e w' => e = .returned (.int .i64 64) ∧ w = w' := fun w => (f29 k w).mono (fun e w' h => by rw [hBB.out] at h; exact h)
  have hd : HO w.drew b a k m := h.mods ((Mods.refl Nix w).drew) (fun f => f) (fun _ _ f => f)
  have d0' : w.drew.cell? ⟨b, 0, none⟩ = some (.int .i64 k) := d0
  have nix : ∀ {i}, ¬ Nix i := fun f => f
  go_enter Tryd.func32, Tryd.ntmps32
  go_wp2_with fail
  go_region_held3 (fun w' => w'.cell? ⟨b, 0, none⟩ = some (.int .i64 k)) (first | assumption) (first | (go_at_call 33; with_reducible refine (f33 _ b a k m hd).mono ?_; rintro e w' ⟨b2, a2, rfl, hO⟩; have hx := hO.mods.cell d0' nix) | (go_at_call 29; with_reducible refine (hf29 _).mono ?_; rintro e w' ⟨rfl, rfl⟩))
  have hM1 : Mods Nix w w' := ((Mods.refl Nix w).drew).trans' hO.mods (fun _ _ f => f)
  have hlk := hO.fresh
  obtain ⟨n2, c2, hn2, r2, o2⟩ := hO.ho.ex
  obtain ⟨rest, hrest⟩ : ∃ rest, Eqn rest (m.drop (hbl k * (m.length / hbl k))) := ⟨_, ⟨rfl⟩⟩
  rw [← hrest.out] at o2 hn2
  have hn64 : n2 < 64 := by rw [hn2, hrest.out, hBB.out, List.length_drop]; omega
  have q9 : w'.cell? ⟨b2, 9, none⟩ = some (.slice a2 n2 c2) := r2.cell (by simp [hst, length_eatN])
  have hn2' := Eqn.mk hn2
  have hl8 := hl.of (m := m.length) (by omega)
  clear hn2 d0 d0' hd
  simp only [Exit.then]
  go_at_K
  go_upto_region 5 with (fail)
  obtain ⟨Z, hZ⟩ : ∃ Z, Eqn Z ((64 - (n2 + 1 + 8) % 64) + 1) := ⟨_, ⟨rfl⟩⟩
  have hZi : 64 - ((n2 : Int) + 1 + 8) % 64 + 1 = (Z : Int) := by have := hZ.out; omega
  have hZ1 : 1 * Z ≤ 281474976710656 := by have := hZ.out; omega
  have hZ2 : Z ≤ maxLen := by have := hZ.out; simp only [maxLen]; omega
  have hZi' := Eqn.mk hZi
  clear hZi
  go_upto_region 6 with (first | (with_reducible refine wpList_mk rfl (.tmp 34) (.tmp 34) ei22 rfl rfl Z rfl rfl hZi'.out hZi'.out hZ1 hZ2 ?_; intro hnew))
  clear hZ1
  obtain ⟨W2, hW2⟩ : ∃ W2, Eqn W2 (w'.alloc (Obj.cells (Array.replicate Z (Value.int .u8 0)) 5)) := ⟨_, ⟨rfl⟩⟩
  rw [← hW2.out]
  have hM2 : Mods Nix w W2 := by rw [hW2.out]; exact hM1.alloc _
  have hR2 : RB W2 w'.heap.size 5 (List.replicate Z (Value.int .u8 0)) := by
    rw [hW2.out]
    have := RB.new w' (List.replicate Z (Value.int .u8 0)) 5
    simpa using this
  have hM12 : Mods Nix w' W2 := by rw [hW2.out]; exact alloc_mods _ _
  have hho := hO.ho.mods hM12 (fun f => f) (fun _ _ f => f)
  have q92 := hM12.cell q9 (fun f => f)
  have d02 := hM12.cell hx (fun f => f)
  clear q9 hx
  have hZ11 : (1 : Int) ≤ Z := by have := hZ.out; omega
  have hZ12 : 0 < Z := by omega
  have e0 : W2.cell? ⟨w'.heap.size, 0, none⟩ = some (.int .u8 0) := hR2.cell (by simp [hZ12])
  have e1 := hR2.free 0
  have hz2 : W2.heap.size = w'.heap.size + 1 := by rw [hW2.out]; simp
  have hz3 := Eqn.mk hz2
  clear hz2
  have hb2 : b2 < w'.heap.size := r2.lt
  have ha2 := hO.ho.in_lt
  have hlk2 : w.heap.size ≤ b2 := hlk
  have hcn := hM1.cell (h2.cell (i := 10) (v := .int .u64 m.length) (by simp [hst, length_eatN])) (fun f => f)
  have hb10 : b < w.heap.size := h2.lt
  obtain ⟨W3, hW3⟩ : ∃ W3, Eqn W3 ((W2.setCell ⟨w'.heap.size, 0, none⟩ (.int .u8 128)).alloc (.cells #[Value.int .u8 0, Value.int .u8 0, Value.int .u8 0, Value.int .u8 0, Value.int .u8 0, Value.int .u8 0, Value.int .u8 0, Value.int .u8 0] 5)) := ⟨_, ⟨rfl⟩⟩
  have hM23 : Mods (fun i => i = w'.heap.size) W2 W3 := by rw [hW3.out]; exact ((Mods.refl (fun i => i = w'.heap.size) W2).setCell (.inl rfl) _).alloc _
  have hP3 : RB W3 w'.heap.size 5 ((List.replicate Z (Value.int .u8 0)).set 0 (.int .u8 128)) := by rw [hW3.out]; exact (hR2.set 0 _).alloc _
  have hL3 : RB W3 W2.heap.size 5 [Value.int .u8 0, Value.int .u8 0, Value.int .u8 0, Value.int .u8 0, Value.int .u8 0, Value.int .u8 0, Value.int .u8 0, Value.int .u8 0] := by
    rw [hW3.out]
    have := RB.new (W2.setCell ⟨w'.heap.size, 0, none⟩ (.int .u8 128)) [Value.int .u8 0, Value.int .u8 0, Value.int .u8 0, Value.int .u8 0, Value.int .u8 0, Value.int .u8 0, Value.int .u8 0, Value.int .u8 0] 5
    simpa using this
  have hws : w.heap.size ≤ w'.heap.size := hM1.size
  have hM3 : Mods Nix w W3 := hM2.trans' hM23 (fun i hi e => by omega)
  have hho3 := hho.mods hM23 (fun e => by omega) (fun i hi e => by have := ha2 i hi; omega)
  have hcn3 : W3.cell? ⟨b, 10, none⟩ = some (.int .u64 m.length) := (hM12.cell hcn (fun f => f)) |> fun h => hM23.cell h (fun e => by simp at e; omega)
  have d03 : W3.cell? ⟨b, 0, none⟩ = some (.int .i64 k) := hM23.cell d02 (fun e => by simp at e; omega)
  clear hcn
  have h8le : 8 ≤ 8 := Nat.le_refl 8
  have h08 : 0 + 8 ≤ [Value.int .u8 0, Value.int .u8 0, Value.int .u8 0, Value.int .u8 0, Value.int .u8 0, Value.int .u8 0, Value.int .u8 0, Value.int .u8 0].length := by simp
  have hsz32 : Eqn (decide (hsz k ≤ 32)) true := ⟨by
    have h5 := hBB.out
    obtain rfl | rfl | rfl | rfl | rfl : k = 1 ∨ k = 2 ∨ k = 3 ∨ k = 4 ∨ k = 5 := by have := h.kind.one; have := h.kind.five; omega
    all_goals first | rfl | (exact absurd h5 (by decide))⟩
  by_cases hz : ((n2 : Int) + 1 + 8) % 64 = 0
  · have hp : Eqn 1 (zer 64 8 n2 + 1) := ⟨by simp only [zer]; omega⟩
    go_upto_region 10 with (first | (with_reducible refine wpList_mk rfl (.tmp 51) (.tmp 51) ei22 rfl rfl 8 rfl rfl h88 h88 hq1 hq2 ?_; intro _))
    rw [← hW3.out]
    have hneb : ¬ b = W2.heap.size := by have := hz3.out; omega
    have hw0 : IntKind.i64.wrap (8 - 8) = 0 := by decide
    have hw1 : IntKind.i64.wrap 0 = 0 := by decide
    have hcn4 : W3.drew.cell? ⟨b, 10, none⟩ = some (.int .u64 m.length) := hcn3
    go_region_held3 (fun w' => w'.cell? ⟨b, 10, none⟩ = some (.int .u64 m.length)) (first | assumption) (first | (go_at_call 90; with_reducible refine (f90 _ W2.heap.size 0 8 8 _ hL3.drew h8le h8le h08 _).mono ?_; rintro e w4 ⟨rfl, hL4, hM34⟩; have hcn5 := hM34.cell hcn4 hneb))
    simp only [Exit.then]
    go_at_K
    have hM3d : Mods (fun i => i = W2.heap.size) W3 w4 := ((Mods.refl (fun i => i = W2.heap.size) W3).drew).trans' hM34 (fun _ _ h => h)
    have hz2 := hz3.out
    have hxl : IntKind.u64.wrap (↑m.length * 8) = 8 * (m.length : Int) := by have := hl8.le; simp only [IntKind.wrap, IntKind.bits, IntKind.signed]; simp; omega
    obtain ⟨E, hE⟩ : ∃ E, Eqn E (en8 (8 * (m.length : Int))) := ⟨_, ⟨rfl⟩⟩
    have hEl : Eqn E.length 8 := ⟨by rw [hE.out]; rfl⟩
    have hL5 : RB w4 W2.heap.size 5 (bv E) := by
      rw [hxl, ← hE.out, splice_all _ _ (by simp [bv, hEl.out])] at hL4
      exact hL4
    clear hL4
    have hS4 : Sv w4 5 1 (some ⟨W2.heap.size, 0, none⟩) 8 8 (bv E) := by
      have := (Own.row (sz := 1) (n := 8) hL5.heap (by simp [bv, hEl.out]) (by simp only [maxLen]; omega)).toSv
      simpa using this
    have hP4 := hP3.mods hM3d (by omega)
    have hM4 : Mods Nix w w4 := hM3.trans' hM3d (fun i hi e => by omega)
    have hho4 := hho3.mods hM3d (by omega) (fun i hi e => by have := ha2 i hi; omega)
    obtain ⟨pl, hpl⟩ : ∃ pl : List Int, Eqn pl (128 :: List.replicate (zer 64 8 n2) 0) := ⟨_, ⟨rfl⟩⟩
    have hO4 : Own w4 5 1 (some ⟨w'.heap.size, 0, none⟩) 1 Z (bv pl) := by
      have hPZ : 1 ≤ Z := by omega
      refine { len := by simp [bv, hpl.out, ← hp.out], le := hPZ, cap := hZ2, nil := fun e => (by cases e), cells := fun ad e => ?_, head := fun ad e => (by cases e; rfl), free := fun ad cur t1 fz e hb => ?_ }
      · cases e
        refine ⟨rfl, _, 5, (0, 0), hP4.heap, fun i u hu => ?_⟩
        have hi : i < zer 64 8 n2 + 1 := by have := (List.getElem?_eq_some_iff.1 hu).1; simpa [bv, hpl.out] using this
        have hiZ : i < Z := by have := hp.out; omega
        rw [← hu, hpl.out]
        simp only [Nat.zero_add, List.getElem?_toArray]
        cases i with
        | zero => simp [bv, hZ12]
        | succ i =>
          have h5 : i < zer 64 8 n2 := by omega
          have h6 : i + 1 < Z := hiZ
          simp [bv, h5, h6]
      · cases e
        have hb' : w4.heap[w'.heap.size]? = _ := hb
        rw [hP4.heap] at hb'
        have hb3 := Option.some.inj hb'
        injection hb3 with g1 g2 g3
        subst g1 g2 g3
        exact ⟨rfl, rfl, by simp⟩
    have hLP : Lim (1 + 8) := ⟨by omega⟩
    have hk6 : ∀ {a6 c6 w6}, AppOut w4 w6 5 1 (some ⟨w'.heap.size, 0, none⟩) a6 (1 + 8) c6 8 (bv pl ++ bv E) → Pd w w6 b2 a2 k m a6 (1 + 8) c6 (pl ++ E) := by
      intro a6 c6 w6 h6
      have hin : ∀ i, In (some (⟨w'.heap.size, 0, none⟩ : Addr)) i → i = w'.heap.size := by rintro i ⟨ad, e, rfl⟩; cases e; rfl
      have hM6 : Mods Nix w w6 := hM4.trans' h6.mods (fun i hi e => by have := hin i e; omega)
      refine ⟨hho4.mods h6.mods (fun e => by have := hin _ e; omega) (fun i hi e => by have := ha2 i hi; have := hin _ e; omega), ?_, by rw [bv_append]; exact h6.own.toSv, hg.mods hM6 (fun f => f), hM6⟩
      rintro ⟨ad, e, hb⟩
      rcases h6.fresh with ⟨x1, x2, e1, e2, e3⟩ | hf
      · cases e1; rw [e2] at e; cases e; rw [← e3] at hb; simp at hb; omega
      · have := hf ad e; have := hho4.lt; omega
    have hBy : Byt (pl ++ E) := by rw [hpl.out, hE.out]; exact (byt_pad _).app (byt_en8 _)
    have hLm : Lim (m ++ (pl ++ E)).length := hl.of (by have := hp.out; have := hZ.out; simp [hpl.out, hEl.out]; omega)
    go_upto_region 15 with (first | (at_builtin; with_reducible refine wpList_app rfl (.tmp 76) (.tmp 77) ei22 rfl hO4 hS4 rfl rfl (bv_one _) (lim_app hLP) hLP.maxLen ?_; intro a6 c6 w6 hO6; have h6 := hk6 hO6) | (go_at_call 34; with_reducible refine (f34 w6 b2 a2 k m h6.ho a6 (1 + 8) c6 (pl ++ E) h6.sv hBy hLm h6.nin h6.gk).mono ?_; rintro e w7 ⟨rfl, a7, hW⟩))
    obtain ⟨n7, c7, -, r7, -⟩ := hW.ho.ex
    obtain ⟨H, hH⟩ : ∃ H, Eqn H (eatN k (m ++ (pl ++ E)) ((m ++ (pl ++ E)).length / hbl k)) := ⟨_, ⟨rfl⟩⟩
    rw [← hH.out] at r7
    obtain ⟨x0, x1, x2, x3, x4, x5, x6, x7, hI⟩ := eight H (by rw [hH.out]; exact length_eatN _ _ _)
    have r8 := r7
    rw [hI] at r8
    have HI := Eqn.mk hI
    clear hI
    have y0 : w7.cell? ⟨b2, 0, none⟩ = some (.int .i64 k) := r8.cell rfl
    have y1 : w7.cell? ⟨b2, 1, none⟩ = some (.int .u64 x0) := r8.cell rfl
    have y2 : w7.cell? ⟨b2, 2, none⟩ = some (.int .u64 x1) := r8.cell rfl
    have y3 : w7.cell? ⟨b2, 3, none⟩ = some (.int .u64 x2) := r8.cell rfl
    have y4 : w7.cell? ⟨b2, 4, none⟩ = some (.int .u64 x3) := r8.cell rfl
    have y5 : w7.cell? ⟨b2, 5, none⟩ = some (.int .u64 x4) := r8.cell rfl
    have y6 : w7.cell? ⟨b2, 6, none⟩ = some (.int .u64 x5) := r8.cell rfl
    have y7 : w7.cell? ⟨b2, 7, none⟩ = some (.int .u64 x6) := r8.cell rfl
    have y8 : w7.cell? ⟨b2, 8, none⟩ = some (.int .u64 x7) := r8.cell rfl
    have hM7 : Mods Nix w w7 := h6.mods.trans' hW.mods (fun i hi e => by
      rcases e with e | e
      · omega
      · exact absurd (hO.freshA) (fun h => by obtain ⟨ad, e1, e2⟩ := e; have := h ad e1; simp at this; omega))
    have d07 := hM7.cell (h2.cell (i := 0) (v := .int .i64 k) rfl) (fun f => f)
    clear hn64 hz hZ11 hZ12 e0 e1 q92 d02 hcn3 d03 hcn4 hcn5
    go_wp2_with fail
    go_loopw [84, 8] (fun i o wr => ∃ (t : Nat) (a' : Option Addr) (c' : Nat), t ≤ 8 ∧ i = .int .i64 t ∧ o = .slice a' (4 * t) c' ∧ Own wr 5 1 a' (4 * t) c' (bv ((H.take t).flatMap (fun x => en4 (c32 x)))) ∧ New w.heap.size a' ∧ Mods Nix w wr) (fun i _ _ => 8 - (intOf i).toNat)
    case atStart => exact ⟨0, none, 0, by omega, rfl, rfl, own_nil _, New.none _, hM7⟩
    case round =>
      obtain ⟨t, a', c', ht, rfl, rfl, hO8, hN8, hM8⟩ := hrel
      by_cases h8 : t < 8
      · obtain ⟨x, hx⟩ : ∃ x, Eqn x (H.getD t 0) := ⟨_, ⟨rfl⟩⟩
        have htH : t < H.length := by rw [HI.out]; exact h8
        have Hxv : Eqn ([Value.int .u64 x0, .int .u64 x1, .int .u64 x2, .int .u64 x3, .int .u64 x4, .int .u64 x5, .int .u64 x6, .int .u64 x7] : List Value)[t]? (some (.int .u64 x)) := ⟨by
          have : ([Value.int .u64 x0, .int .u64 x1, .int .u64 x2, .int .u64 x3, .int .u64 x4, .int .u64 x5, .int .u64 x6, .int .u64 x7] : List Value) = H.map (Value.int .u64) := by rw [HI.out]; rfl
          rw [this, hx.out]
          simp [htH, List.getD]⟩
        have hL9 : Lim (4 * t + 4) := ⟨by omega⟩
        go_wp2_with (first | (with_reducible refine wpList_idx rfl 109 (.tmp 83) (.tmp 84) rfl 8 107 Tryd.underlying109 .u64 Tryd.underlying107 i107 t rfl rfl rfl h8 _ Hxv.out ?_) | (go_at_call 91; with_reducible refine (f91 hO8 hL9 _).mono ?_; rintro e w9 ⟨a9, c9, rfl, hO9⟩))
        go_roundw
        case measure => simp [intOf]; omega
        case rel =>
          refine ⟨t + 1, a9, c9, by omega, rfl, rfl, ?_, hO9.new hN8 hM8.size, hM8.trans' hO9.mods (fun i hi ⟨ad, e, hb⟩ => by have := hN8 ad e; omega)⟩
          have e5 : (H.take (t + 1)).flatMap (fun x => en4 (c32 x)) = (H.take t).flatMap (fun x => en4 (c32 x)) ++ en4 (x % 4294967296) := by
            have e6 : H.take (t + 1) = H.take t ++ [H.getD t 0] := by rw [List.take_add_one]; simp [htH, List.getD]
            rw [e6, List.flatMap_append, hx.out]
            simp only [List.flatMap_cons, List.flatMap_nil, List.append_nil, c32]
          rw [e5]
          exact hO9.own
      · obtain rfl : t = 8 := by omega
        have d0w := hM8.cell (h2.cell (i := 0) (v := .int .i64 k) rfl) (fun f => f)
        have h32 : hsz k ≤ 32 := of_decide_eq_true hsz32.out
        have h32c : ((hsz k : Nat) : Int) ≤ c' := by have := hO8.le; omega
        have hc0 : ¬ c' = 0 := by have := hO8.le; omega
        go_wp2_with (first | (go_at_call 27; refine (f27 k _).mono ?_; rintro e w' ⟨rfl, rfl⟩))
        go_ret
        refine ⟨a', c', rfl, ?_, hN8, hM8⟩
        have e6 : hash k m = ((H.take 8).flatMap (fun x => en4 (c32 x))).take (hsz k) := by
          have e7 : pl ++ E = padd (hbl k) (hbl k / 8) m.length := by
            have e8 : n2 = m.length % 64 := by rw [hn2'.out, hrest.out, hBB.out, List.length_drop]; omega
            have e9 : zer 64 8 n2 = zer 64 8 m.length := by simp only [zer]; omega
            rw [hpl.out, hE.out, hBB.out, padd, e9]
            simp
          rw [hash, ← e7, ← hH.out, digest, hBB.out, if_pos rfl, List.take_of_length_le (l := H) (by rw [HI.out]; simp)]
        rw [e6, ← bv_take]
        exact hO8.front _ (by omega)
  · have hp : Eqn Z (zer 64 8 n2 + 1) := ⟨by rw [hZ.out]; simp only [zer]; omega⟩
    go_upto_region 10 with (first | (with_reducible refine wpList_mk rfl (.tmp 51) (.tmp 51) ei22 rfl rfl 8 rfl rfl h88 h88 hq1 hq2 ?_; intro _))
    rw [← hW3.out]
    have hneb : ¬ b = W2.heap.size := by have := hz3.out; omega
    have hw0 : IntKind.i64.wrap (8 - 8) = 0 := by decide
    have hw1 : IntKind.i64.wrap 0 = 0 := by decide
    have hcn4 : W3.drew.cell? ⟨b, 10, none⟩ = some (.int .u64 m.length) := hcn3
    go_region_held3 (fun w' => w'.cell? ⟨b, 10, none⟩ = some (.int .u64 m.length)) (first | assumption) (first | (go_at_call 90; with_reducible refine (f90 _ W2.heap.size 0 8 8 _ hL3.drew h8le h8le h08 _).mono ?_; rintro e w4 ⟨rfl, hL4, hM34⟩; have hcn5 := hM34.cell hcn4 hneb))
    simp only [Exit.then]
    go_at_K
    have hM3d : Mods (fun i => i = W2.heap.size) W3 w4 := ((Mods.refl (fun i => i = W2.heap.size) W3).drew).trans' hM34 (fun _ _ h => h)
    have hz2 := hz3.out
    have hxl : IntKind.u64.wrap (↑m.length * 8) = 8 * (m.length : Int) := by have := hl8.le; simp only [IntKind.wrap, IntKind.bits, IntKind.signed]; simp; omega
    obtain ⟨E, hE⟩ : ∃ E, Eqn E (en8 (8 * (m.length : Int))) := ⟨_, ⟨rfl⟩⟩
    have hEl : Eqn E.length 8 := ⟨by rw [hE.out]; rfl⟩
    have hL5 : RB w4 W2.heap.size 5 (bv E) := by
      rw [hxl, ← hE.out, splice_all _ _ (by simp [bv, hEl.out])] at hL4
      exact hL4
    clear hL4
    have hS4 : Sv w4 5 1 (some ⟨W2.heap.size, 0, none⟩) 8 8 (bv E) := by
      have := (Own.row (sz := 1) (n := 8) hL5.heap (by simp [bv, hEl.out]) (by simp only [maxLen]; omega)).toSv
      simpa using this
    have hP4 := hP3.mods hM3d (by omega)
    have hM4 : Mods Nix w w4 := hM3.trans' hM3d (fun i hi e => by omega)
    have hho4 := hho3.mods hM3d (by omega) (fun i hi e => by have := ha2 i hi; omega)
    obtain ⟨pl, hpl⟩ : ∃ pl : List Int, Eqn pl (128 :: List.replicate (zer 64 8 n2) 0) := ⟨_, ⟨rfl⟩⟩
    have hO4 : Own w4 5 1 (some ⟨w'.heap.size, 0, none⟩) Z Z (bv pl) := by
      have hPZ : Z ≤ Z := Nat.le_refl Z
      refine { len := by simp [bv, hpl.out, ← hp.out], le := hPZ, cap := hZ2, nil := fun e => (by cases e), cells := fun ad e => ?_, head := fun ad e => (by cases e; rfl), free := fun ad cur t1 fz e hb => ?_ }
      · cases e
        refine ⟨rfl, _, 5, (0, 0), hP4.heap, fun i u hu => ?_⟩
        have hi : i < zer 64 8 n2 + 1 := by have := (List.getElem?_eq_some_iff.1 hu).1; simpa [bv, hpl.out] using this
        have hiZ : i < Z := by have := hp.out; omega
        rw [← hu, hpl.out]
        simp only [Nat.zero_add, List.getElem?_toArray]
        cases i with
        | zero => simp [bv, hZ12]
        | succ i =>
          have h5 : i < zer 64 8 n2 := by omega
          have h6 : i + 1 < Z := hiZ
          simp [bv, h5, h6]
      · cases e
        have hb' : w4.heap[w'.heap.size]? = _ := hb
        rw [hP4.heap] at hb'
        have hb3 := Option.some.inj hb'
        injection hb3 with g1 g2 g3
        subst g1 g2 g3
        exact ⟨rfl, rfl, by simp⟩
    have hLP : Lim (Z + 8) := ⟨by have := hZ.out; omega⟩
    have hk6 : ∀ {a6 c6 w6}, AppOut w4 w6 5 1 (some ⟨w'.heap.size, 0, none⟩) a6 (Z + 8) c6 8 (bv pl ++ bv E) → Pd w w6 b2 a2 k m a6 (Z + 8) c6 (pl ++ E) := by
      intro a6 c6 w6 h6
      have hin : ∀ i, In (some (⟨w'.heap.size, 0, none⟩ : Addr)) i → i = w'.heap.size := by rintro i ⟨ad, e, rfl⟩; cases e; rfl
      have hM6 : Mods Nix w w6 := hM4.trans' h6.mods (fun i hi e => by have := hin i e; omega)
      refine ⟨hho4.mods h6.mods (fun e => by have := hin _ e; omega) (fun i hi e => by have := ha2 i hi; have := hin _ e; omega), ?_, by rw [bv_append]; exact h6.own.toSv, hg.mods hM6 (fun f => f), hM6⟩
      rintro ⟨ad, e, hb⟩
      rcases h6.fresh with ⟨x1, x2, e1, e2, e3⟩ | hf
      · cases e1; rw [e2] at e; cases e; rw [← e3] at hb; simp at hb; omega
      · have := hf ad e; have := hho4.lt; omega
    have hBy : Byt (pl ++ E) := by rw [hpl.out, hE.out]; exact (byt_pad _).app (byt_en8 _)
    have hLm : Lim (m ++ (pl ++ E)).length := hl.of (by have := hp.out; have := hZ.out; simp [hpl.out, hEl.out]; omega)
    go_upto_region 15 with (first | (at_builtin; with_reducible refine wpList_app rfl (.tmp 76) (.tmp 77) ei22 rfl hO4 hS4 rfl rfl (bv_one _) (lim_app hLP) hLP.maxLen ?_; intro a6 c6 w6 hO6; have h6 := hk6 hO6) | (go_at_call 34; with_reducible refine (f34 w6 b2 a2 k m h6.ho a6 (Z + 8) c6 (pl ++ E) h6.sv hBy hLm h6.nin h6.gk).mono ?_; rintro e w7 ⟨rfl, a7, hW⟩))
    obtain ⟨n7, c7, -, r7, -⟩ := hW.ho.ex
    obtain ⟨H, hH⟩ : ∃ H, Eqn H (eatN k (m ++ (pl ++ E)) ((m ++ (pl ++ E)).length / hbl k)) := ⟨_, ⟨rfl⟩⟩
    rw [← hH.out] at r7
    obtain ⟨x0, x1, x2, x3, x4, x5, x6, x7, hI⟩ := eight H (by rw [hH.out]; exact length_eatN _ _ _)
    have r8 := r7
    rw [hI] at r8
    have HI := Eqn.mk hI
    clear hI
    have y0 : w7.cell? ⟨b2, 0, none⟩ = some (.int .i64 k) := r8.cell rfl
    have y1 : w7.cell? ⟨b2, 1, none⟩ = some (.int .u64 x0) := r8.cell rfl
    have y2 : w7.cell? ⟨b2, 2, none⟩ = some (.int .u64 x1) := r8.cell rfl
    have y3 : w7.cell? ⟨b2, 3, none⟩ = some (.int .u64 x2) := r8.cell rfl
    have y4 : w7.cell? ⟨b2, 4, none⟩ = some (.int .u64 x3) := r8.cell rfl
    have y5 : w7.cell? ⟨b2, 5, none⟩ = some (.int .u64 x4) := r8.cell rfl
    have y6 : w7.cell? ⟨b2, 6, none⟩ = some (.int .u64 x5) := r8.cell rfl
    have y7 : w7.cell? ⟨b2, 7, none⟩ = some (.int .u64 x6) := r8.cell rfl
    have y8 : w7.cell? ⟨b2, 8, none⟩ = some (.int .u64 x7) := r8.cell rfl
    have hM7 : Mods Nix w w7 := h6.mods.trans' hW.mods (fun i hi e => by
      rcases e with e | e
      · omega
      · exact absurd (hO.freshA) (fun h => by obtain ⟨ad, e1, e2⟩ := e; have := h ad e1; simp at this; omega))
    have d07 := hM7.cell (h2.cell (i := 0) (v := .int .i64 k) rfl) (fun f => f)
    clear hn64 hz hZ11 hZ12 e0 e1 q92 d02 hcn3 d03 hcn4 hcn5
    go_wp2_with fail
    go_loopw [84, 8] (fun i o wr => ∃ (t : Nat) (a' : Option Addr) (c' : Nat), t ≤ 8 ∧ i = .int .i64 t ∧ o = .slice a' (4 * t) c' ∧ Own wr 5 1 a' (4 * t) c' (bv ((H.take t).flatMap (fun x => en4 (c32 x)))) ∧ New w.heap.size a' ∧ Mods Nix w wr) (fun i _ _ => 8 - (intOf i).toNat)
    case atStart => exact ⟨0, none, 0, by omega, rfl, rfl, own_nil _, New.none _, hM7⟩
    case round =>
      obtain ⟨t, a', c', ht, rfl, rfl, hO8, hN8, hM8⟩ := hrel
      by_cases h8 : t < 8
      · obtain ⟨x, hx⟩ : ∃ x, Eqn x (H.getD t 0) := ⟨_, ⟨rfl⟩⟩
        have htH : t < H.length := by rw [HI.out]; exact h8
        have Hxv : Eqn ([Value.int .u64 x0, .int .u64 x1, .int .u64 x2, .int .u64 x3, .int .u64 x4, .int .u64 x5, .int .u64 x6, .int .u64 x7] : List Value)[t]? (some (.int .u64 x)) := ⟨by
          have : ([Value.int .u64 x0, .int .u64 x1, .int .u64 x2, .int .u64 x3, .int .u64 x4, .int .u64 x5, .int .u64 x6, .int .u64 x7] : List Value) = H.map (Value.int .u64) := by rw [HI.out]; rfl
          rw [this, hx.out]
          simp [htH, List.getD]⟩
        have hL9 : Lim (4 * t + 4) := ⟨by omega⟩
        go_wp2_with (first | (with_reducible refine wpList_idx rfl 109 (.tmp 83) (.tmp 84) rfl 8 107 Tryd.underlying109 .u64 Tryd.underlying107 i107 t rfl rfl rfl h8 _ Hxv.out ?_) | (go_at_call 91; with_reducible refine (f91 hO8 hL9 _).mono ?_; rintro e w9 ⟨a9, c9, rfl, hO9⟩))
        go_roundw
        case measure => simp [intOf]; omega
        case rel =>
          refine ⟨t + 1, a9, c9, by omega, rfl, rfl, ?_, hO9.new hN8 hM8.size, hM8.trans' hO9.mods (fun i hi ⟨ad, e, hb⟩ => by have := hN8 ad e; omega)⟩
          have e5 : (H.take (t + 1)).flatMap (fun x => en4 (c32 x)) = (H.take t).flatMap (fun x => en4 (c32 x)) ++ en4 (x % 4294967296) := by
            have e6 : H.take (t + 1) = H.take t ++ [H.getD t 0] := by rw [List.take_add_one]; simp [htH, List.getD]
            rw [e6, List.flatMap_append, hx.out]
            simp only [List.flatMap_cons, List.flatMap_nil, List.append_nil, c32]
          rw [e5]
          exact hO9.own
      · obtain rfl : t = 8 := by omega
        have d0w := hM8.cell (h2.cell (i := 0) (v := .int .i64 k) rfl) (fun f => f)
        have h32 : hsz k ≤ 32 := of_decide_eq_true hsz32.out
        have h32c : ((hsz k : Nat) : Int) ≤ c' := by have := hO8.le; omega
        have hc0 : ¬ c' = 0 := by have := hO8.le; omega
        go_wp2_with (first | (go_at_call 27; refine (f27 k _).mono ?_; rintro e w' ⟨rfl, rfl⟩))
        go_ret
        refine ⟨a', c', rfl, ?_, hN8, hM8⟩
        have e6 : hash k m = ((H.take 8).flatMap (fun x => en4 (c32 x))).take (hsz k) := by
          have e7 : pl ++ E = padd (hbl k) (hbl k / 8) m.length := by
            have e8 : n2 = m.length % 64 := by rw [hn2'.out, hrest.out, hBB.out, List.length_drop]; omega
            have e9 : zer 64 8 n2 = zer 64 8 m.length := by simp only [zer]; omega
            rw [hpl.out, hE.out, hBB.out, padd, e9]
            simp
          rw [hash, ← e7, ← hH.out, digest, hBB.out, if_pos rfl, List.take_of_length_le (l := H) (by rw [HI.out]; simp)]
        rw [e6, ← bv_take]
        exact hO8.front _ (by omega)
end Go.Proofs.YtladijfaeieidaaDoor
