/- Contracts: keyed hashes (newKeyed, of, HMAC). Conditions: a kind from 1 to 5; lengths that an append may come to. -/
import Derived.Test.YtladijfaeieidaaDoorC11
import Derived.Deep.Cut
namespace Go.Proofs.YtladijfaeieidaaDoor
open Go.RowKit

theorem run_mk22 (n : Nat) (hn : Lim n) (w : World) : (Instr.makeSlice 22 (.int .i64 (n : Int)) (.int .i64 (n : Int))).run Tryd.prog w = .ok (.slice (some ⟨w.heap.size, 0, none⟩) n n) (w.alloc (.cells (bv (List.replicate n 0)).toArray 5)) := by
  obtain ⟨ht, ⟨i, hi, hz, hsize, hby⟩, hzs, hpos⟩ := ei22
  have h1 := hn.le
  have hr := run_make (P := Tryd.prog) w 22 5 i _ ht hi hz .i64 .i64 n n (by omega) (Int.le_refl _) (by rw [hby]; omega) (by omega)
  have hm : madeCells (Value.int .u8 0).cells ((n : Int).toNat * i.size) = (bv (List.replicate n 0)).toArray := by
    apply Array.ext'
    rw [hsize]
    simp [bv, Value.cells, toList_madeCells_one]
  rw [hm] at hr
  simpa using hr
/-- copy into a new row. -/
theorem wpList_cp {w : World} {ops : Array Oper} {rest : List Oper} {o : Oper} {a : Act} {Q : Exit → Act → World → Prop} (hgd : o.guard = none) (d s : Operand)
    (ho : o.op = .call { callee := .builtin .copy, args := #[d, s], argTypes := #[22, 22] }) {g n c bl : Nat} {x : Option Addr} {l : List Int} 
    (hg : RB w g 5 (bv (List.replicate bl 0))) (hsv : Sv w 5 1 x n c (bv l)) (hn : n ≤ bl) (hd : a.eval d = .slice (some ⟨g, 0, none⟩) bl bl) (hs : a.eval s = .slice x n c)
    (h : ∀ w', RB w' g 5 (bv (l ++ List.replicate (bl - n) 0)) → Mods (fun i => i = g) w w' → wpList Tryd.prog ops Q rest (a.put o.dst (.int .i64 n)) w') : wpList Tryd.prog ops Q (o :: rest) a w := by
  have hl : l.length = n := by have := hsv.len; simpa [bv] using this
  rcases Nat.eq_zero_or_pos n with h0 | h0
  · subst h0
    obtain rfl := List.eq_nil_of_length_eq_zero hl
    refine wpList_copy_nothing hgd d s 22 22 ho 5 Tryd.underlying22 s5 _ x bl bl 0 c hd hs (Nat.zero_min _) ?_
    exact h w (by simpa using hg) (Mods.refl _ _)
  · obtain ⟨b, f, rfl⟩ := hsv.addr h0
    refine wpList_copy_own hgd d s 22 22 ho 5 Tryd.underlying22 s5 g 0 bl bl ⟨b, f, none⟩ n c hd hs _ 5 hg.heap (bv l) (by rw [length_bv, hl]; exact (Nat.min_eq_left hn).symm) (fun j v hv => by rw [Addr.add_lit]; exact hsv.cell hv) (by simp [bv, hl]; exact hn) (bv_one _) ?_
    have e : (List.take 0 (bv (List.replicate bl 0)).toArray.toList ++ (bv l ++ List.drop (0 + (bv l).length) (bv (List.replicate bl 0)).toArray.toList)).toArray = (bv (l ++ List.replicate (bl - n) 0)).toArray := by
      simp [bv, hl]
    rw [e, length_bv, hl]
    exact h _ (hg.setRow _) ((Mods.refl (fun i => i = g) w).setRow (.inl rfl) _)
theorem length_kpad (k : Int) (l : List Int) (h : l.length ≤ hbl k) : (l ++ List.replicate (hbl k - l.length) 0).length = hbl k := by simp; omega
def kxor (x : Int) (l : List Int) : List Int := l.map (fun y => bits .xor .u8 y x)
theorem over_at (R L : List Int) (t : Nat) (h : R.length = L.length) (ht : t < L.length) : (R.take t ++ L.drop t).getD t 0 = L.getD t 0 := by
  simp only [List.getD]
  rw [List.getElem?_append_right (by simp; omega)]
  simp [Nat.min_eq_left (show t ≤ R.length by omega)]
theorem bv_set (l : List Int) (t : Nat) (v : Int) : (bv l).set t (.int .u8 v) = bv (l.set t v) := by simp [bv, List.map_set]
theorem length_kxor (x : Int) (l : List Int) : (kxor x l).length = l.length := by simp [kxor]
theorem kxor_at (x : Int) (l : List Int) (t : Nat) (ht : t < l.length) : (kxor x l)[t]? = some (bits .xor .u8 (l.getD t 0) x) := by simp [kxor, ht, List.getD]
theorem i118 : (Tryd.prog.info? 118).map (·.size) = some 2 := by kernel_rfl
theorem lim_hbl {k : Int} (h : Kd k) : Lim (hbl k) := ⟨by rcases hbl_cases h with e | e <;> omega⟩
theorem xor_byt (X : Int) (hX : X = 54 ∨ X = 92) (y : Int) (h0 : 0 ≤ y) (h1 : y < 256) : 0 ≤ bits .xor .u8 y X ∧ bits .xor .u8 y X < 256 := by
  obtain ⟨n, rfl⟩ := Int.eq_ofNat_of_zero_le h0
  have hn : n < 256 := by omega
  have : ∀ n : Fin 256, (0 ≤ bits .xor .u8 (n.val : Int) 54 ∧ bits .xor .u8 (n.val : Int) 54 < 256) ∧ (0 ≤ bits .xor .u8 (n.val : Int) 92 ∧ bits .xor .u8 (n.val : Int) 92 < 256) := by decide +kernel
  rcases hX with rfl | rfl
  · exact (this ⟨n, hn⟩).1
  · exact (this ⟨n, hn⟩).2
theorem kxor_byt (X : Int) (hX : X = 54 ∨ X = 92) (l : List Int) (h : Byt l) : Byt (kxor X l) := by
  intro y hy
  obtain ⟨z, hz, rfl⟩ := List.mem_map.1 hy
  exact xor_byt X hX z (h z hz).1 (h z hz).2
theorem sv_row {w : World} {g : Nat} {l : List Int} {n : Nat} (h : RB w g 5 (bv l)) (hl : l.length = n) (hm : Lim n) : Sv w 5 1 (some ⟨g, 0, none⟩) n n (bv l) := by
  have := (Own.row (sz := 1) (n := n) h.heap (by simp [bv, hl]) hm.maxLen).toSv
  simpa using this
structure KeyIn (w : World) (x : Option Addr) (n c : Nat) (l : List Int) : Prop where
  sv : Sv w 5 1 x n c (bv l)
  byt : Byt l
  lim : Lim (l.length + 300)
/-- The key as it stands in a block. -/
def kpad (k : Int) (l : List Int) : List Int := l ++ List.replicate (hbl k - l.length) 0

theorem hsz_hbl {k : Int} (h : Kd k) : hsz k ≤ hbl k := by
  obtain rfl | rfl | rfl | rfl | rfl : k = 1 ∨ k = 2 ∨ k = 3 ∨ k = 4 ∨ k = 5 := by have := h.one; have := h.five; omega
  all_goals decide
theorem hash_byt (k : Int) (l : List Int) : Byt (hash k l) := by
  intro y hy
  have h1 := List.mem_of_mem_take hy
  rw [List.mem_flatMap] at h1
  obtain ⟨z, -, hz⟩ := h1
  split at hz
  · simp only [en4, List.mem_cons, List.not_mem_nil, or_false] at hz; omega
  · exact byt_en8 z y hz
theorem hash_lim {k : Int} (hk : Kd k) (l : List Int) : Lim ((hash k l).length + 300) := ⟨by
  have h1 : (hash k l).length ≤ hsz k := by rw [hash, digest, List.length_take]; omega
  have := hsz_hbl hk
  have := (lim_hbl hk)
  rcases hbl_cases hk with e | e <;> omega⟩
theorem bs_one {w w' : World} {x : Option Addr} {n c : Nat} {l : List Int} (hM : Mods Nix w w') (h : KeyIn w x n c l) : Bs (w'.alloc (.cells #[.slice x n c] 22)) (some ⟨w'.heap.size, 0, none⟩) 1 1 [l] := by
  refine ⟨rfl, [.slice x n c], (own_lit w' [.slice x n c] 22 1 rfl (by simp only [maxLen]; omega)).toSv, fun i li hi => ?_⟩
  obtain rfl : i = 0 := by have := (List.getElem?_eq_some_iff.1 hi).1; simp at this; omega
  obtain rfl : l = li := by simpa using hi
  exact ⟨x, n, c, rfl, (h.sv.mods hM (fun _ _ f => f)).mods (alloc_mods _ _) (fun _ _ f => f), h.byt⟩
/-- The key as newKeyed takes it. -/
def keyOf (k : Int) (l : List Int) : List Int := kpad k (if hbl k < l.length then hash k l else l)
set_option maxHeartbeats 1000000 in
set_option maxRecDepth 100000 in
theorem f95_short (w : World) (k : Int) (hk : Kd k) (x : Option Addr) (n c : Nat) (l : List Int) (h : KeyIn w x n c l) (hn : n ≤ hbl k) (hg : GK w) :
    Calls Tryd.prog 95 #[.int .i64 k, .slice x n c] w fun e w' => ∃ b1 b2 a1 a2, e = .returned (.agg #[.pointer (some ⟨b1, 0, none⟩), .pointer (some ⟨b2, 0, none⟩)]) ∧
      HN w.heap.size w' b1 a1 k (kxor 54 (kpad k l)) ∧ HN w.heap.size w' b2 a2 k (kxor 92 (kpad k l)) ∧ Mods Nix w w' := by
  have hni : ¬ ((hbl k : Nat) : Int) < n := by omega
  have hlb : Lim (hbl k) := lim_hbl hk
  have hmk := run_mk22 (hbl k) hlb
  go_enter Tryd.func95, Tryd.ntmps95
  go_upto_region 3 with (go_at_call 29; refine (f29 k _).mono ?_; rintro e w' ⟨rfl, rfl⟩)
  obtain ⟨wq, hwq⟩ : ∃ wq, Eqn wq (w.alloc (.cells #[.pointer none, .pointer none] 118)) := ⟨_, ⟨rfl⟩⟩
  rw [← hwq.out]
  have hMq : Mods Nix w wq := by rw [hwq.out]; exact alloc_mods _ _
  have hRq : RB wq w.heap.size 118 [.pointer none, .pointer none] := by rw [hwq.out]; exact RB.new w [_, _] 118
  have hq : KeyIn wq x n c l := ⟨h.sv.mods hMq (fun _ _ f => f), h.byt, h.lim⟩
  have hnq := hn
  have m2 := RB.new wq (bv (List.replicate (hbl k) 0)) 5
  have m3 := RB.new (wq.alloc (.cells (bv (List.replicate (hbl k) 0)).toArray 5)) (bv (List.replicate (hbl k) 0)) 5
  have m4 : Mods Nix wq ((wq.alloc (.cells (bv (List.replicate (hbl k) 0)).toArray 5)).alloc (.cells (bv (List.replicate (hbl k) 0)).toArray 5)).drew := ((alloc_mods wq _).alloc _).drew
  have n1 := hRq.mods m4 (fun f => f)
  have n2 := (m2.alloc (.cells (bv (List.replicate (hbl k) 0)).toArray 5)).drew
  have n3 := m3.drew
  have hwq1 := hRq.lt
  simp only [World.size_alloc] at n3
  clear m2 m3
  go_cut [5, 6] from 9 (fun s5 s6 wx => ∃ g1 g2, s5 = Value.slice (some ⟨g1, 0, none⟩) (hbl k) (hbl k) ∧ s6 = Value.slice (some ⟨g2, 0, none⟩) (hbl k) (hbl k) ∧ g1 ≠ g2 ∧ wq.heap.size ≤ g1 ∧ wq.heap.size ≤ g2 ∧ RB wx w.heap.size 118 [.pointer none, .pointer none] ∧
    RB wx g1 5 (bv (List.replicate (hbl k) 0)) ∧ RB wx g2 5 (bv (List.replicate (hbl k) 0)) ∧ Mods Nix wq wx)
  case first =>
    go_region_held3 (fun _ => True) (first | exact True.intro) (first | (go_at_call 29; with_reducible refine (f29 k _).mono ?_; rintro e w' ⟨rfl, rfl⟩))
    all_goals (try go_wp2_with fail)
    all_goals go_meet
    · exact ⟨_, _, rfl, rfl, by omega, by omega, by omega, n1, n2, n3, m4⟩
    · exact ⟨_, _, rfl, rfl, by omega, by omega, by omega, n1, n2, n3, m4⟩
    · exact ⟨_, _, rfl, rfl, by omega, by omega, by omega, n1, n3, n2, m4⟩
  case rest =>
    obtain ⟨g1, g2, rfl, rfl, h12, hg1, hg2, hRB, hr1, hr2, hMq2⟩ := hcut
    have hM : Mods Nix w wc := hMq.trans' hMq2 (fun _ _ f => f)
    have hnl : Eqn l.length n := ⟨by have := hq.sv.len; simpa [bv] using this⟩
    have hsx := hq.sv.mods hMq2 (fun _ _ f => f)
    have hx1 : ∀ g, wq.heap.size ≤ g → ¬ In x g := fun g hg ⟨ad, e, hb⟩ => by have := hq.sv.lt ad e; omega
    clear n1 n2 n3 m4
    go_upto_region 6 with (first | (refine wpList_cp rfl (.tmp 24) (.tmp 25) rfl hr1 hsx hnq rfl rfl ?_; intro w3 hr3 hM3; have hsx3 := hsx.mods hM3 (fun i hi e => hx1 g1 hg1 (e ▸ hi)); have hr23 := hr2.mods hM3 (fun e => h12 e.symm)) | (refine wpList_cp rfl (.tmp 27) (.tmp 28) rfl hr23 hsx3 hnq rfl rfl ?_; intro w4 hr4 hM4))
    have hr5 := hr3.mods hM4 h12
    obtain ⟨KP, hKP⟩ : ∃ KP, Eqn KP (kpad k l) := ⟨_, ⟨rfl⟩⟩
    have hkl : Eqn KP.length (hbl k) := ⟨by rw [hKP.out, kpad, List.length_append, List.length_replicate, hnl.out]; omega⟩
    rw [← hnl.out, ← kpad, ← hKP.out] at hr5 hr4
    have hM5 : Mods (fun i => i = g1 ∨ i = g2) wc w4 := (hM3.mono (fun _ _ e => .inl e)).trans' (hM4.mono (fun _ _ e => .inr e)) (fun _ _ e => e)
    have hbK : Byt KP := by rw [hKP.out, kpad]; exact hq.byt.app (fun y hy => by simp at hy; omega)
    clear hr3 hM3 hM4
    clear hsx
    go_wp2_with fail
    go_loopw [32] (fun i wr => ∃ t : Nat, t ≤ hbl k ∧ i = .int .i64 t ∧ RB wr g1 5 (bv ((kxor 54 KP).take t ++ KP.drop t)) ∧ RB wr g2 5 (bv ((kxor 92 KP).take t ++ KP.drop t)) ∧ Mods (fun i => i = g1 ∨ i = g2) wc wr) (fun i _ => hbl k - (intOf i).toNat)
    case atStart => exact ⟨0, Nat.zero_le _, rfl, by simpa using hr5, by simpa using hr4, hM5⟩
    case round =>
      obtain ⟨t, ht, rfl, hA, hB, hMr⟩ := hrel
      by_cases h8 : t < hbl k
      · obtain ⟨y, hy⟩ : ∃ y, Eqn y (KP.getD t 0) := ⟨_, ⟨rfl⟩⟩
        have h1 : t < KP.length := by rw [hkl.out]; exact h8
        have hat : ∀ (X : Int), (bv ((kxor X KP).take t ++ KP.drop t))[t]? = some (.int .u8 y) := fun X => by
          rw [getElem?_bv _ _ (by simp [kxor]; omega), over_at _ _ _ (length_kxor _ _) h1, hy.out]
        have hne : ∀ (X : Int) (v : Int), Eqn v (bits .xor .u8 y X) → (bv ((kxor X KP).take t ++ KP.drop t)).set t (.int .u8 v) = bv ((kxor X KP).take (t + 1) ++ KP.drop (t + 1)) := fun X v hv => by
          rw [bv_set, set_over _ _ _ _ (length_kxor _ _) h1 (by rw [kxor_at _ _ _ h1, hv.out, hy.out])]
        have q1 := Eqn.mk (hne 54 _ ⟨rfl⟩)
        have q2 := Eqn.mk (hne 92 _ ⟨rfl⟩)
        have Hwk : Eqn (wrap64 ((t : Int) + 1)) ((t + 1 : Nat) : Int) := ⟨wrap_up (by have := hlb.le; omega)⟩
        have y1 := hA.cell (hat 54)
        have y2 := hB.cell (hat 92)
        have z1 := hA.free t
        have z2 := hB.free t
        clear hat hne
        go_wp2_with fail
        go_roundw
        case measure => rw [Hwk.out]; exact down_one h8
        case rel =>
          refine ⟨t + 1, h8, by rw [Hwk.out], ?_, ?_, (hMr.setCell (.inl (.inl rfl)) _).setCell (.inl (.inr rfl)) _⟩
          · have := (hA.set t (.int .u8 (bits .xor .u8 y 54))).other (a := ⟨g2, t, none⟩) (.int .u8 (bits .xor .u8 y 92)) h12
            rwa [q1.out] at this
          · have := (hB.other (a := ⟨g1, t, none⟩) (.int .u8 (bits .xor .u8 y 54)) (fun e => h12 e.symm)).set t (.int .u8 (bits .xor .u8 y 92))
            rwa [q2.out] at this
      · obtain rfl : t = hbl k := by omega
        have hfull : ∀ X, (kxor X KP).take (hbl k) ++ KP.drop (hbl k) = kxor X KP := fun X => by
          rw [List.take_of_length_le (by rw [length_kxor, hkl.out]; exact Nat.le_refl _), List.drop_eq_nil_of_le (by rw [hkl.out]; exact Nat.le_refl _), List.append_nil]
        rw [hfull] at hA hB
        clear hfull
        have hMw : Mods Nix w wr := hM.trans' hMr (fun i hi e => by omega)
        go_upto_region 13 with (first | (go_at_call 31; refine (f31 wr k hk).mono ?_; rintro e w1 ⟨p1, rfl, hN1⟩) | (go_at_call 31; refine (f31 w1 k hk).mono ?_; rintro e w2 ⟨p2, rfl, hN2⟩))
        obtain ⟨W5, hW5⟩ : ∃ W5, Eqn W5 (w2.alloc (.cells #[.pointer (some ⟨p1, 0, none⟩), .pointer (some ⟨p2, 0, none⟩)] 118)) := ⟨_, ⟨rfl⟩⟩
        rw [← hW5.out]
        have hp12 : p1 < p2 := Nat.lt_of_lt_of_le hN1.ho.lt hN2.fresh
        have hM25 : Mods Nix w2 W5 := by rw [hW5.out]; exact alloc_mods _ _
        have hM15 : Mods Nix w1 W5 := hN2.mods.trans' hM25 (fun _ _ f => f)
        have hMr5 : Mods Nix wr W5 := hN1.mods.trans' hM15 (fun _ _ f => f)
        have hM05 : Mods Nix w W5 := hMw.trans' hMr5 (fun _ _ f => f)
        have hw2 : w2.heap.size ≤ W5.heap.size := hM25.size
        have hp2 : p2 < w2.heap.size := hN2.ho.lt
        have hwr : w.heap.size ≤ wr.heap.size := hMw.size
        have hf1 := hN1.fresh
        have hf2 := hN2.fresh
        have hs1 := hN1.mods.size
        have hH1 : HN w.heap.size W5 p1 none k [] := ⟨hN1.ho.mods hM15 (fun f => f) (fun _ _ f => f), by omega, New.none _⟩
        have hH2 : HN w.heap.size W5 p2 none k [] := ⟨hN2.ho.mods hM25 (fun f => f) (fun _ _ f => f), by omega, New.none _⟩
        have hT5 : RB W5 w2.heap.size 118 [.pointer (some ⟨p1, 0, none⟩), .pointer (some ⟨p2, 0, none⟩)] := by rw [hW5.out]; exact RB.new w2 [_, _] 118
        have hR5 : RB W5 w.heap.size 118 [.pointer none, .pointer none] := (hRB.mods hMr (by omega)).mods hMr5 (fun f => f)
        have hga := hA.lt
        have hgb := hB.lt
        have hSA := sv_row (hA.mods hMr5 (fun f => f)) ((length_kxor _ _).trans hkl.out) hlb
        have hSB := sv_row (hB.mods hMr5 (fun f => f)) ((length_kxor _ _).trans hkl.out) hlb
        have hrw := hRB.lt
        have hlm : ∀ X, Lim ([] ++ kxor X KP).length := fun X => ⟨by rw [List.nil_append, length_kxor, hkl.out]; exact hlb.le⟩
        have hin : ∀ g p, g < p → ¬ In (some (⟨g, 0, none⟩ : Addr)) p := by rintro g p hg ⟨ad, e, hb⟩; cases e; simp at hb; omega
        have u1 := hT5.cell (i := 0) rfl
        have u2 := hT5.cell (i := 1) rfl
        have hN0 : ∀ i, ¬ In none i := by rintro i ⟨ad, e, -⟩; cases e
        have T1 := f34n w.heap.size w W5 rfl hM05 p1 none k [] hH1 _ _ _ _ hSA (kxor_byt 54 (.inl rfl) KP hbK) (hlm 54) (hin g1 p1 (by omega)) hg
        go_upto_region 14 with (go_at_call 34; refine T1.mono ?_; rintro e w6 ⟨rfl, a6, hH6, hM6, hM56, hN6⟩)
        have hH26 : HN w.heap.size w6 p2 none k [] := ⟨hH2.ho.mods hM56 (fun e => e.elim (by omega) (hN0 _)) (fun i hi => (hN0 i hi).elim), hH2.fresh, New.none _⟩
        have hSB6 := hSB.mods hM56 (fun i hi e => e.elim (fun e => hin g2 p1 (by omega) (e ▸ hi)) (hN0 _))
        have hT6 := hT5.mods hM56 (fun e => e.elim (by omega) (hN0 _))
        have hR6 := hR5.mods hM56 (fun e => e.elim (by omega) (hN0 _))
        have u3 := hT6.cell (i := 1) rfl
        clear T1
        have T2 := f34n w.heap.size w w6 rfl hM6 p2 none k [] hH26 _ _ _ _ hSB6 (kxor_byt 92 (.inr rfl) KP hbK) (hlm 92) (hin g2 p2 (by omega)) hg
        go_upto_region 15 with (go_at_call 34; refine T2.mono ?_; rintro e w7 ⟨rfl, a7, hH7, hM7, hM67, hN7⟩)
        have hT7 := hT6.mods hM67 (fun e => e.elim (by omega) (hN0 _))
        have hR7 := hR6.mods hM67 (fun e => e.elim (by omega) (hN0 _))
        have hH17 : HN w.heap.size w7 p1 a6 k ([] ++ kxor 54 KP) := ⟨hH6.ho.mods hM67 (fun e => e.elim (by omega) (hN0 _)) (fun i hi e => e.elim (fun e => (hN6 i hi).elim (hN0 _) (by omega)) (hN0 _)), hH6.fresh, hH6.freshA⟩
        have u4 := hT7.cell (i := 0) rfl
        have u5 := hT7.cell (i := 1) rfl
        have u6 := hR7.cell (i := 0) rfl
        have u7 := hR7.cell (i := 1) rfl
        have u8 := hR7.free 0
        have u9 := hR7.free 1
        go_wp2_with fail
        have r9 := (hR7.set 0 (.pointer (some ⟨p1, 0, none⟩))).set 1 (.pointer (some ⟨p2, 0, none⟩))
        have m9 : Mods (fun i => i = w.heap.size) w7 ((w7.setCell ⟨w.heap.size, 0, none⟩ (.pointer (some ⟨p1, 0, none⟩))).setCell ⟨w.heap.size, 1, none⟩ (.pointer (some ⟨p2, 0, none⟩))) := ((Mods.refl (fun i => i = w.heap.size) w7).setCell (.inl rfl) _).setCell (.inl rfl) _
        have hi1 : ∀ i, In a6 i → ¬ i = w.heap.size := fun i hi e => (hN6 i hi).elim (hN0 _) (by omega)
        have hi2 : ∀ i, In a7 i → ¬ i = w.heap.size := fun i hi e => (hN7 i hi).elim (hN0 _) (by have := hM56.size; omega)
        refine bodyPost_ret (results_cell_row rfl _ _ w.heap.size 118 _ (0, 0) _ rfl r9.heap Tryd.underlying118 rfl i118) rfl ⟨p1, p2, a6, a7, rfl, ?_, ?_, hM7.trans' m9 (fun i hi e => by omega)⟩
        · rw [← hKP.out, ← List.nil_append (kxor 54 KP)]
          exact ⟨hH17.ho.mods m9 (by omega) hi1, hH17.fresh, hH17.freshA⟩
        · rw [← hKP.out, ← List.nil_append (kxor 92 KP)]
          exact ⟨hH7.ho.mods m9 (by omega) hi2, hH7.fresh, hH7.freshA⟩
set_option maxHeartbeats 1000000 in
set_option maxRecDepth 100000 in
theorem f95_long (w : World) (k : Int) (hk : Kd k) (x : Option Addr) (n c : Nat) (l : List Int) (h : KeyIn w x n c l) (hn : hbl k < n) (hg : GK w) :
    Calls Tryd.prog 95 #[.int .i64 k, .slice x n c] w fun e w' => ∃ b1 b2 a1 a2, e = .returned (.agg #[.pointer (some ⟨b1, 0, none⟩), .pointer (some ⟨b2, 0, none⟩)]) ∧
      HN w.heap.size w' b1 a1 k (kxor 54 (kpad k (hash k l))) ∧ HN w.heap.size w' b2 a2 k (kxor 92 (kpad k (hash k l))) ∧ Mods Nix w w' := by
  have hni : ((hbl k : Nat) : Int) < n := by omega
  have hlb : Lim (hbl k) := lim_hbl hk
  have hmk := run_mk22 (hbl k) hlb
  go_enter Tryd.func95, Tryd.ntmps95
  have hwA : Mods Nix w (w.alloc (.cells #[.pointer none, .pointer none] 118)) := alloc_mods _ _
  have hRA : RB (w.alloc (.cells #[.pointer none, .pointer none] 118)) w.heap.size 118 [.pointer none, .pointer none] := RB.new w [_, _] 118
  have hwB : Mods Nix w ((w.alloc (.cells #[.pointer none, .pointer none] 118)).alloc (.cells #[.slice x n c] 22)) := (alloc_mods _ _).alloc _
  have hRB0 : RB ((w.alloc (.cells #[.pointer none, .pointer none] 118)).alloc (.cells #[.slice x n c] 22)) w.heap.size 118 [.pointer none, .pointer none] := hRA.alloc _
  have hBs : Bs ((w.alloc (.cells #[.pointer none, .pointer none] 118)).alloc (.cells #[.slice x n c] 22)) (some ⟨w.heap.size + 1, 0, none⟩) 1 1 [l] := by have := bs_one hwA h; rwa [World.size_alloc] at this
  have hgB := hg.mods hwB (fun f => f)
  have hlf : Lim ([l].flatten.length + 300) := by simpa using h.lim
  go_upto_region 3 with (first | (go_at_call 29; refine (f29 k _).mono ?_; rintro e w' ⟨rfl, rfl⟩) | (go_at_call 25; refine (f25 _ k hk _ 1 1 [l] hBs hlf hgB).mono ?_; rintro e wq ⟨xq, cq, rfl, hSq⟩))
  have hMq : Mods Nix w wq := hwB.trans' hSq.mods (fun _ _ f => f)
  have hRq := hRB0.mods hSq.mods (fun f => f)
  have hfl : [l].flatten = l := by simp
  have hSv := hSq.own.toSv
  rw [hfl] at hSv
  have hq : KeyIn wq xq (hsz k) cq (hash k l) := ⟨hSv, hash_byt k l, hash_lim hk l⟩
  have hnq : hsz k ≤ hbl k := hsz_hbl hk
  clear hfl hBs hlf hRA hRB0
  have m2 := RB.new wq (bv (List.replicate (hbl k) 0)) 5
  have m3 := RB.new (wq.alloc (.cells (bv (List.replicate (hbl k) 0)).toArray 5)) (bv (List.replicate (hbl k) 0)) 5
  have m4 : Mods Nix wq ((wq.alloc (.cells (bv (List.replicate (hbl k) 0)).toArray 5)).alloc (.cells (bv (List.replicate (hbl k) 0)).toArray 5)).drew := ((alloc_mods wq _).alloc _).drew
  have n1 := hRq.mods m4 (fun f => f)
  have n2 := (m2.alloc (.cells (bv (List.replicate (hbl k) 0)).toArray 5)).drew
  have n3 := m3.drew
  have hwq1 := hRq.lt
  simp only [World.size_alloc] at n3
  clear m2 m3
  go_cut [5, 6] from 9 (fun s5 s6 wx => ∃ g1 g2, s5 = Value.slice (some ⟨g1, 0, none⟩) (hbl k) (hbl k) ∧ s6 = Value.slice (some ⟨g2, 0, none⟩) (hbl k) (hbl k) ∧ g1 ≠ g2 ∧ wq.heap.size ≤ g1 ∧ wq.heap.size ≤ g2 ∧ RB wx w.heap.size 118 [.pointer none, .pointer none] ∧
    RB wx g1 5 (bv (List.replicate (hbl k) 0)) ∧ RB wx g2 5 (bv (List.replicate (hbl k) 0)) ∧ Mods Nix wq wx)
  case first =>
    go_region_held3 (fun _ => True) (first | exact True.intro) (first | (go_at_call 29; with_reducible refine (f29 k _).mono ?_; rintro e w' ⟨rfl, rfl⟩))
    all_goals (try go_wp2_with fail)
    all_goals go_meet
    · exact ⟨_, _, rfl, rfl, by omega, by omega, by omega, n1, n2, n3, m4⟩
    · exact ⟨_, _, rfl, rfl, by omega, by omega, by omega, n1, n2, n3, m4⟩
    · exact ⟨_, _, rfl, rfl, by omega, by omega, by omega, n1, n3, n2, m4⟩
  case rest =>
    obtain ⟨g1, g2, rfl, rfl, h12, hg1, hg2, hRB, hr1, hr2, hMq2⟩ := hcut
    have hM : Mods Nix w wc := hMq.trans' hMq2 (fun _ _ f => f)
    have hnl : Eqn (hash k l).length (hsz k) := ⟨by have := hq.sv.len; simpa [bv] using this⟩
    have hsx := hq.sv.mods hMq2 (fun _ _ f => f)
    have hx1 : ∀ g, wq.heap.size ≤ g → ¬ In xq g := fun g hg ⟨ad, e, hb⟩ => by have := hq.sv.lt ad e; omega
    clear n1 n2 n3 m4
    go_upto_region 6 with (first | (refine wpList_cp rfl (.tmp 24) (.tmp 25) rfl hr1 hsx hnq rfl rfl ?_; intro w3 hr3 hM3; have hsx3 := hsx.mods hM3 (fun i hi e => hx1 g1 hg1 (e ▸ hi)); have hr23 := hr2.mods hM3 (fun e => h12 e.symm)) | (refine wpList_cp rfl (.tmp 27) (.tmp 28) rfl hr23 hsx3 hnq rfl rfl ?_; intro w4 hr4 hM4))
    have hr5 := hr3.mods hM4 h12
    obtain ⟨KP, hKP⟩ : ∃ KP, Eqn KP (kpad k (hash k l)) := ⟨_, ⟨rfl⟩⟩
    have hkl : Eqn KP.length (hbl k) := ⟨by rw [hKP.out, kpad, List.length_append, List.length_replicate, hnl.out]; omega⟩
    rw [← hnl.out, ← kpad, ← hKP.out] at hr5 hr4
    have hM5 : Mods (fun i => i = g1 ∨ i = g2) wc w4 := (hM3.mono (fun _ _ e => .inl e)).trans' (hM4.mono (fun _ _ e => .inr e)) (fun _ _ e => e)
    have hbK : Byt KP := by rw [hKP.out, kpad]; exact hq.byt.app (fun y hy => by simp at hy; omega)
    clear hr3 hM3 hM4
    clear hsx
    go_wp2_with fail
    go_loopw [32] (fun i wr => ∃ t : Nat, t ≤ hbl k ∧ i = .int .i64 t ∧ RB wr g1 5 (bv ((kxor 54 KP).take t ++ KP.drop t)) ∧ RB wr g2 5 (bv ((kxor 92 KP).take t ++ KP.drop t)) ∧ Mods (fun i => i = g1 ∨ i = g2) wc wr) (fun i _ => hbl k - (intOf i).toNat)
    case atStart => exact ⟨0, Nat.zero_le _, rfl, by simpa using hr5, by simpa using hr4, hM5⟩
    case round =>
      obtain ⟨t, ht, rfl, hA, hB, hMr⟩ := hrel
      by_cases h8 : t < hbl k
      · obtain ⟨y, hy⟩ : ∃ y, Eqn y (KP.getD t 0) := ⟨_, ⟨rfl⟩⟩
        have h1 : t < KP.length := by rw [hkl.out]; exact h8
        have hat : ∀ (X : Int), (bv ((kxor X KP).take t ++ KP.drop t))[t]? = some (.int .u8 y) := fun X => by
          rw [getElem?_bv _ _ (by simp [kxor]; omega), over_at _ _ _ (length_kxor _ _) h1, hy.out]
        have hne : ∀ (X : Int) (v : Int), Eqn v (bits .xor .u8 y X) → (bv ((kxor X KP).take t ++ KP.drop t)).set t (.int .u8 v) = bv ((kxor X KP).take (t + 1) ++ KP.drop (t + 1)) := fun X v hv => by
          rw [bv_set, set_over _ _ _ _ (length_kxor _ _) h1 (by rw [kxor_at _ _ _ h1, hv.out, hy.out])]
        have q1 := Eqn.mk (hne 54 _ ⟨rfl⟩)
        have q2 := Eqn.mk (hne 92 _ ⟨rfl⟩)
        have Hwk : Eqn (wrap64 ((t : Int) + 1)) ((t + 1 : Nat) : Int) := ⟨wrap_up (by have := hlb.le; omega)⟩
        have y1 := hA.cell (hat 54)
        have y2 := hB.cell (hat 92)
        have z1 := hA.free t
        have z2 := hB.free t
        clear hat hne
        go_wp2_with fail
        go_roundw
        case measure => rw [Hwk.out]; exact down_one h8
        case rel =>
          refine ⟨t + 1, h8, by rw [Hwk.out], ?_, ?_, (hMr.setCell (.inl (.inl rfl)) _).setCell (.inl (.inr rfl)) _⟩
          · have := (hA.set t (.int .u8 (bits .xor .u8 y 54))).other (a := ⟨g2, t, none⟩) (.int .u8 (bits .xor .u8 y 92)) h12
            rwa [q1.out] at this
          · have := (hB.other (a := ⟨g1, t, none⟩) (.int .u8 (bits .xor .u8 y 54)) (fun e => h12 e.symm)).set t (.int .u8 (bits .xor .u8 y 92))
            rwa [q2.out] at this
      · obtain rfl : t = hbl k := by omega
        have hfull : ∀ X, (kxor X KP).take (hbl k) ++ KP.drop (hbl k) = kxor X KP := fun X => by
          rw [List.take_of_length_le (by rw [length_kxor, hkl.out]; exact Nat.le_refl _), List.drop_eq_nil_of_le (by rw [hkl.out]; exact Nat.le_refl _), List.append_nil]
        rw [hfull] at hA hB
        clear hfull
        have hMw : Mods Nix w wr := hM.trans' hMr (fun i hi e => by omega)
        go_upto_region 13 with (first | (go_at_call 31; refine (f31 wr k hk).mono ?_; rintro e w1 ⟨p1, rfl, hN1⟩) | (go_at_call 31; refine (f31 w1 k hk).mono ?_; rintro e w2 ⟨p2, rfl, hN2⟩))
        obtain ⟨W5, hW5⟩ : ∃ W5, Eqn W5 (w2.alloc (.cells #[.pointer (some ⟨p1, 0, none⟩), .pointer (some ⟨p2, 0, none⟩)] 118)) := ⟨_, ⟨rfl⟩⟩
        rw [← hW5.out]
        have hp12 : p1 < p2 := Nat.lt_of_lt_of_le hN1.ho.lt hN2.fresh
        have hM25 : Mods Nix w2 W5 := by rw [hW5.out]; exact alloc_mods _ _
        have hM15 : Mods Nix w1 W5 := hN2.mods.trans' hM25 (fun _ _ f => f)
        have hMr5 : Mods Nix wr W5 := hN1.mods.trans' hM15 (fun _ _ f => f)
        have hM05 : Mods Nix w W5 := hMw.trans' hMr5 (fun _ _ f => f)
        have hw2 : w2.heap.size ≤ W5.heap.size := hM25.size
        have hp2 : p2 < w2.heap.size := hN2.ho.lt
        have hwr : w.heap.size ≤ wr.heap.size := hMw.size
        have hf1 := hN1.fresh
        have hf2 := hN2.fresh
        have hs1 := hN1.mods.size
        have hH1 : HN w.heap.size W5 p1 none k [] := ⟨hN1.ho.mods hM15 (fun f => f) (fun _ _ f => f), by omega, New.none _⟩
        have hH2 : HN w.heap.size W5 p2 none k [] := ⟨hN2.ho.mods hM25 (fun f => f) (fun _ _ f => f), by omega, New.none _⟩
        have hT5 : RB W5 w2.heap.size 118 [.pointer (some ⟨p1, 0, none⟩), .pointer (some ⟨p2, 0, none⟩)] := by rw [hW5.out]; exact RB.new w2 [_, _] 118
        have hR5 : RB W5 w.heap.size 118 [.pointer none, .pointer none] := (hRB.mods hMr (by omega)).mods hMr5 (fun f => f)
        have hga := hA.lt
        have hgb := hB.lt
        have hSA := sv_row (hA.mods hMr5 (fun f => f)) ((length_kxor _ _).trans hkl.out) hlb
        have hSB := sv_row (hB.mods hMr5 (fun f => f)) ((length_kxor _ _).trans hkl.out) hlb
        have hrw := hRB.lt
        have hlm : ∀ X, Lim ([] ++ kxor X KP).length := fun X => ⟨by rw [List.nil_append, length_kxor, hkl.out]; exact hlb.le⟩
        have hin : ∀ g p, g < p → ¬ In (some (⟨g, 0, none⟩ : Addr)) p := by rintro g p hg ⟨ad, e, hb⟩; cases e; simp at hb; omega
        have u1 := hT5.cell (i := 0) rfl
        have u2 := hT5.cell (i := 1) rfl
        have hN0 : ∀ i, ¬ In none i := by rintro i ⟨ad, e, -⟩; cases e
        have T1 := f34n w.heap.size w W5 rfl hM05 p1 none k [] hH1 _ _ _ _ hSA (kxor_byt 54 (.inl rfl) KP hbK) (hlm 54) (hin g1 p1 (by omega)) hg
        go_upto_region 14 with (go_at_call 34; refine T1.mono ?_; rintro e w6 ⟨rfl, a6, hH6, hM6, hM56, hN6⟩)
        have hH26 : HN w.heap.size w6 p2 none k [] := ⟨hH2.ho.mods hM56 (fun e => e.elim (by omega) (hN0 _)) (fun i hi => (hN0 i hi).elim), hH2.fresh, New.none _⟩
        have hSB6 := hSB.mods hM56 (fun i hi e => e.elim (fun e => hin g2 p1 (by omega) (e ▸ hi)) (hN0 _))
        have hT6 := hT5.mods hM56 (fun e => e.elim (by omega) (hN0 _))
        have hR6 := hR5.mods hM56 (fun e => e.elim (by omega) (hN0 _))
        have u3 := hT6.cell (i := 1) rfl
        clear T1
        have T2 := f34n w.heap.size w w6 rfl hM6 p2 none k [] hH26 _ _ _ _ hSB6 (kxor_byt 92 (.inr rfl) KP hbK) (hlm 92) (hin g2 p2 (by omega)) hg
        go_upto_region 15 with (go_at_call 34; refine T2.mono ?_; rintro e w7 ⟨rfl, a7, hH7, hM7, hM67, hN7⟩)
        have hT7 := hT6.mods hM67 (fun e => e.elim (by omega) (hN0 _))
        have hR7 := hR6.mods hM67 (fun e => e.elim (by omega) (hN0 _))
        have hH17 : HN w.heap.size w7 p1 a6 k ([] ++ kxor 54 KP) := ⟨hH6.ho.mods hM67 (fun e => e.elim (by omega) (hN0 _)) (fun i hi e => e.elim (fun e => (hN6 i hi).elim (hN0 _) (by omega)) (hN0 _)), hH6.fresh, hH6.freshA⟩
        have u4 := hT7.cell (i := 0) rfl
        have u5 := hT7.cell (i := 1) rfl
        have u6 := hR7.cell (i := 0) rfl
        have u7 := hR7.cell (i := 1) rfl
        have u8 := hR7.free 0
        have u9 := hR7.free 1
        go_wp2_with fail
        have r9 := (hR7.set 0 (.pointer (some ⟨p1, 0, none⟩))).set 1 (.pointer (some ⟨p2, 0, none⟩))
        have m9 : Mods (fun i => i = w.heap.size) w7 ((w7.setCell ⟨w.heap.size, 0, none⟩ (.pointer (some ⟨p1, 0, none⟩))).setCell ⟨w.heap.size, 1, none⟩ (.pointer (some ⟨p2, 0, none⟩))) := ((Mods.refl (fun i => i = w.heap.size) w7).setCell (.inl rfl) _).setCell (.inl rfl) _
        have hi1 : ∀ i, In a6 i → ¬ i = w.heap.size := fun i hi e => (hN6 i hi).elim (hN0 _) (by omega)
        have hi2 : ∀ i, In a7 i → ¬ i = w.heap.size := fun i hi e => (hN7 i hi).elim (hN0 _) (by have := hM56.size; omega)
        refine bodyPost_ret (results_cell_row rfl _ _ w.heap.size 118 _ (0, 0) _ rfl r9.heap Tryd.underlying118 rfl i118) rfl ⟨p1, p2, a6, a7, rfl, ?_, ?_, hM7.trans' m9 (fun i hi e => by omega)⟩
        · rw [← hKP.out, ← List.nil_append (kxor 54 KP)]
          exact ⟨hH17.ho.mods m9 (by omega) hi1, hH17.fresh, hH17.freshA⟩
        · rw [← hKP.out, ← List.nil_append (kxor 92 KP)]
          exact ⟨hH7.ho.mods m9 (by omega) hi2, hH7.fresh, hH7.freshA⟩
theorem f95 (w : World) (k : Int) (hk : Kd k) (x : Option Addr) (n c : Nat) (l : List Int) (h : KeyIn w x n c l) (hg : GK w) :
    Calls Tryd.prog 95 #[.int .i64 k, .slice x n c] w fun e w' => ∃ b1 b2 a1 a2, e = .returned (.agg #[.pointer (some ⟨b1, 0, none⟩), .pointer (some ⟨b2, 0, none⟩)]) ∧
      HN w.heap.size w' b1 a1 k (kxor 54 (keyOf k l)) ∧ HN w.heap.size w' b2 a2 k (kxor 92 (keyOf k l)) ∧ Mods Nix w w' := by
  have hl : l.length = n := by have := h.sv.len; simpa [bv] using this
  by_cases hn : hbl k < n
  · rw [keyOf, if_pos (by rw [hl]; exact hn)]
    exact f95_long w k hk x n c l h hn hg
  · rw [keyOf, if_neg (by rw [hl]; exact hn)]
    exact f95_short w k hk x n c l h (by omega) hg
end Go.Proofs.YtladijfaeieidaaDoor
