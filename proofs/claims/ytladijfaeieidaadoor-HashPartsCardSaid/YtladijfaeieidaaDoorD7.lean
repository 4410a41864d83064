/- Contracts of the reference hashes: Of computes the same hash as the program's. Conditions: a length that an append may come to. -/
import Derived.Test.YtladijfaeieidaaDoorC14
import Derived.Test.YtladijfaeieidaaDoorD5
import Derived.Test.YtladijfaeieidaaDoorD6
namespace Go.Proofs.YtladijfaeieidaaDoor
open Go.RowKit

theorem c32_a32 (a b : List Int) : (List.zipWith a32 a b).map c32 = List.zipWith a32 a b := by
  rw [List.map_zipWith]
  congr 1
  funext x y
  simp only [a32, c32]
  omega
theorem c32_take256 (v b : List Int) : (take256 v b).map c32 = take256 v b := c32_a32 _ _
theorem c32_take1 (v b : List Int) : (take1 v b).map c32 = take1 v b := c32_a32 _ _
theorem hbl23 {k : Int} (hk : k = 2 ∨ k = 3) : hbl k = 64 := by rcases hk with rfl | rfl <;> rfl
theorem eat32_eq {k : Int} (hk : k = 2 ∨ k = 3) (m : List Int) : ∀ t, eatN k m t = eat32 (init k) m t ∧ (eatN k m t).map c32 = eatN k m t
  | 0 => ⟨rfl, by rcases hk with rfl | rfl <;> (show (init _).map c32 = init _; decide)⟩
  | t + 1 => by
    obtain ⟨h1, h2⟩ := eat32_eq hk m t
    have e : eatN k m (t + 1) = take256 (eatN k m t) (piece m 64 t) := by
      rw [eatN, hbl23 hk, blk1, if_neg (by omega), if_pos (by omega), h2]
    refine ⟨?_, ?_⟩
    · rw [e, eat32, h1]
    · rw [e, c32_take256]
theorem flatMap_c32 (H : List Int) (h : H.map c32 = H) : H.flatMap (fun x => en4 (c32 x)) = H.flatMap en4 := by
  have e : H.flatMap (fun x => en4 (c32 x)) = (H.map c32).flatMap en4 := by rw [List.flatMap_map]
  rw [e, h]
theorem hash23 {k : Int} (hk : k = 2 ∨ k = 3) (l : List Int) : hash k l = ((eat32 (init k) (l ++ padd 64 8 l.length) ((l ++ padd 64 8 l.length).length / 64)).flatMap en4).take (hsz k) := by
  rw [hash, digest, hbl23 hk, if_pos rfl]
  obtain ⟨h1, h2⟩ := eat32_eq hk (l ++ padd 64 8 l.length) ((l ++ padd 64 8 l.length).length / 64)
  rw [flatMap_c32 _ h2, h1]
theorem length_en4 (H : List Int) : (H.flatMap en4).length = 4 * H.length := by
  induction H with
  | nil => rfl
  | cons a l ih => rw [List.flatMap_cons, List.length_append, ih, List.length_cons]; simp [en4]; omega
theorem length_en8 (H : List Int) : (H.flatMap en8).length = 8 * H.length := by
  induction H with
  | nil => rfl
  | cons a l ih => rw [List.flatMap_cons, List.length_append, ih, List.length_cons]; simp [en8]; omega
theorem hash3 (l : List Int) : hash 3 l = (eat32 (init 3) (l ++ padd 64 8 l.length) ((l ++ padd 64 8 l.length).length / 64)).flatMap en4 := by
  rw [hash23 (.inr rfl), List.take_of_length_le]
  rw [length_en4, length_eat32 _ _ rfl]
  decide
theorem eat1_eq (m : List Int) : ∀ t, eatN 1 m t = eat1 iv1 m t ++ [0, 0, 0] ∧ (eat1 iv1 m t).map c32 = eat1 iv1 m t
  | 0 => ⟨rfl, by show iv1.map c32 = iv1; decide⟩
  | t + 1 => by
    obtain ⟨h1, h2⟩ := eat1_eq m t
    have hl : (eat1 iv1 m t).length = 5 := length_eat1 _ _ rfl _
    refine ⟨?_, ?_⟩
    · rw [eatN, blk1, if_pos rfl, h1, List.take_left' hl, List.drop_left' hl, h2]
      rfl
    · rw [eat1, c32_take1]
theorem hash1 (l : List Int) : hash 1 l = (eat1 iv1 (l ++ padd 64 8 l.length) ((l ++ padd 64 8 l.length).length / 64)).flatMap en4 := by
  rw [hash, digest, show hbl 1 = 64 from rfl, if_pos rfl, show 64 / 8 = 8 from rfl]
  obtain ⟨h1, h2⟩ := eat1_eq (l ++ padd 64 8 l.length) ((l ++ padd 64 8 l.length).length / 64)
  rw [h1, List.flatMap_append, flatMap_c32 _ h2]
  refine List.take_left' ?_
  rw [length_en4, length_eat1 _ _ rfl]
  rfl
theorem hbl45 {k : Int} (hk : k = 4 ∨ k = 5) : hbl k = 128 := by rcases hk with rfl | rfl <;> rfl
theorem eat64_eq {k : Int} (hk : k = 4 ∨ k = 5) (m : List Int) : ∀ t, eatN k m t = eat64 (init k) m t
  | 0 => rfl
  | t + 1 => by rw [eatN, hbl45 hk, blk1, if_neg (by omega), if_neg (by omega), eat64_eq hk m t, eat64]
theorem hash45 {k : Int} (hk : k = 4 ∨ k = 5) (l : List Int) : hash k l = ((eat64 (init k) (l ++ padd 128 16 l.length) ((l ++ padd 128 16 l.length).length / 128)).flatMap en8).take (hsz k) := by
  rw [hash, digest, hbl45 hk, if_neg (by decide), eat64_eq hk]
theorem hash5 (l : List Int) : hash 5 l = (eat64 (init 5) (l ++ padd 128 16 l.length) ((l ++ padd 128 16 l.length).length / 128)).flatMap en8 := by
  rw [hash45 (.inr rfl), List.take_of_length_le]
  rw [length_en8, length_eat64 _ _ rfl]
  decide

/-- The reference's hash of a message. -/
theorem f26_1 (w : World) (a : Option Addr) (n c : Nat) (l : List Int) (hs : Sv w 5 1 a n c (bv l)) (hl : Lim (n + 300)) (hB : Byt l) :
    Calls Tryd.prog 26 #[.int .i64 1, .slice a n c] w fun e w' => ∃ a' c', e = .returned (.slice a' 20 c') ∧ SumOut w w' a' 20 c' (hash 1 l) := by
  rw [hash1]
  go_enter Tryd.func26, Tryd.ntmps26
  go_wp2_with (go_at_call 86; refine (f86 _ a n c l hs hl hB).mono ?_; rintro e w' ⟨a', c', rfl, hS⟩)
  go_ret
  exact ⟨a', c', rfl, hS⟩
theorem f26_2 (w : World) (a : Option Addr) (n c : Nat) (l : List Int) (hs : Sv w 5 1 a n c (bv l)) (hl : Lim (n + 300)) (hB : Byt l) :
    Calls Tryd.prog 26 #[.int .i64 2, .slice a n c] w fun e w' => ∃ a' c', e = .returned (.slice a' 28 c') ∧ SumOut w w' a' 28 c' (hash 2 l) := by
  rw [hash23 (.inl rfl)]
  have hI := IB.new w (init 2) .u32 104
  have T := f87 _ a n c l (hs.mods (alloc_mods w (.cells ((init 2).map (Value.int .u32)).toArray 104)) (fun _ _ f => f)) hl hB w.heap.size (init 2) rfl hI
  go_enter Tryd.func26, Tryd.ntmps26
  go_upto_region 5 with (fail)
  have T2 : Calls Tryd.prog 87 #[.slice a n c, .slice (some ⟨w.heap.size, 0, none⟩) 8 8] (w.alloc (.cells #[.int .u32 3238371032, .int .u32 914150663, .int .u32 812702999, .int .u32 4144912697, .int .u32 4290775857, .int .u32 1750603025, .int .u32 1694076839, .int .u32 3204075428] 104)) fun e w' => ∃ a' c', e = .returned (.slice a' 32 c') ∧ (28 : Int) ≤ c' ∧ ¬ c' = 0 ∧ SumOut w w' a' 32 c' ((eat32 (init 2) (l ++ padd 64 8 l.length) ((l ++ padd 64 8 l.length).length / 64)).flatMap en4) := by
    refine T.mono ?_
    rintro e w' ⟨a', c', rfl, hO, hN, hM⟩
    have := hO.le
    exact ⟨a', c', rfl, by omega, by omega, hO, hN.mono (by simp), (alloc_mods w _).trans' hM (fun i hi e => by omega)⟩
  clear T
  go_wp2_with (go_at_call 87; refine T2.mono ?_; rintro e w' ⟨a', c', rfl, h28, hc0, hS⟩)
  go_ret
  refine ⟨a', c', rfl, ?_, hS.fresh, hS.mods⟩
  rw [← bv_take]
  exact hS.own.front 28 (by omega)
theorem f26_3 (w : World) (a : Option Addr) (n c : Nat) (l : List Int) (hs : Sv w 5 1 a n c (bv l)) (hl : Lim (n + 300)) (hB : Byt l) :
    Calls Tryd.prog 26 #[.int .i64 3, .slice a n c] w fun e w' => ∃ a' c', e = .returned (.slice a' 32 c') ∧ SumOut w w' a' 32 c' (hash 3 l) := by
  rw [hash3]
  have hI := IB.new w (init 3) .u32 104
  have T := f87 _ a n c l (hs.mods (alloc_mods w (.cells ((init 3).map (Value.int .u32)).toArray 104)) (fun _ _ f => f)) hl hB w.heap.size (init 3) rfl hI
  go_enter Tryd.func26, Tryd.ntmps26
  go_upto_region 7 with (fail)
  have T2 : Calls Tryd.prog 87 #[.slice a n c, .slice (some ⟨w.heap.size, 0, none⟩) 8 8] (w.alloc (.cells #[.int .u32 1779033703, .int .u32 3144134277, .int .u32 1013904242, .int .u32 2773480762, .int .u32 1359893119, .int .u32 2600822924, .int .u32 528734635, .int .u32 1541459225] 104)) fun e w' => ∃ a' c', e = .returned (.slice a' 32 c') ∧ SumOut w w' a' 32 c' ((eat32 (init 3) (l ++ padd 64 8 l.length) ((l ++ padd 64 8 l.length).length / 64)).flatMap en4) := by
    refine T.mono ?_
    rintro e w' ⟨a', c', rfl, hO, hN, hM⟩
    exact ⟨a', c', rfl, hO, hN.mono (by simp), (alloc_mods w _).trans' hM (fun i hi e => by omega)⟩
  clear T
  go_wp2_with (go_at_call 87; refine T2.mono ?_; rintro e w' ⟨a', c', rfl, hS⟩)
  go_ret
  exact ⟨a', c', rfl, hS⟩
theorem f26_4 (w : World) (a : Option Addr) (n c : Nat) (l : List Int) (hs : Sv w 5 1 a n c (bv l)) (hl : Lim (n + 300)) (hB : Byt l) :
    Calls Tryd.prog 26 #[.int .i64 4, .slice a n c] w fun e w' => ∃ a' c', e = .returned (.slice a' 48 c') ∧ SumOut w w' a' 48 c' (hash 4 l) := by
  rw [hash45 (.inl rfl)]
  have hI := IB.new w (init 4) .u64 107
  have T := f88 _ a n c l (hs.mods (alloc_mods w (.cells ((init 4).map (Value.int .u64)).toArray 107)) (fun _ _ f => f)) hl hB w.heap.size (init 4) rfl hI
  go_enter Tryd.func26, Tryd.ntmps26
  go_upto_region 9 with (fail)
  have T2 : Calls Tryd.prog 88 #[.slice a n c, .slice (some ⟨w.heap.size, 0, none⟩) 8 8] (w.alloc (.cells #[.int .u64 14680500436340154072, .int .u64 7105036623409894663, .int .u64 10473403895298186519, .int .u64 1526699215303891257, .int .u64 7436329637833083697, .int .u64 10282925794625328401, .int .u64 15784041429090275239, .int .u64 5167115440072839076] 107)) fun e w' => ∃ a' c', e = .returned (.slice a' 64 c') ∧ (48 : Int) ≤ c' ∧ ¬ c' = 0 ∧ SumOut w w' a' 64 c' ((eat64 (init 4) (l ++ padd 128 16 l.length) ((l ++ padd 128 16 l.length).length / 128)).flatMap en8) := by
    refine T.mono ?_
    rintro e w' ⟨a', c', rfl, hO, hN, hM⟩
    have := hO.le
    exact ⟨a', c', rfl, by omega, by omega, hO, hN.mono (by simp), (alloc_mods w _).trans' hM (fun i hi e => by omega)⟩
  clear T
  go_wp2_with (go_at_call 88; refine T2.mono ?_; rintro e w' ⟨a', c', rfl, h28, hc0, hS⟩)
  go_ret
  refine ⟨a', c', rfl, ?_, hS.fresh, hS.mods⟩
  rw [← bv_take]
  exact hS.own.front 48 (by omega)
theorem f26_5 (w : World) (a : Option Addr) (n c : Nat) (l : List Int) (hs : Sv w 5 1 a n c (bv l)) (hl : Lim (n + 300)) (hB : Byt l) :
    Calls Tryd.prog 26 #[.int .i64 5, .slice a n c] w fun e w' => ∃ a' c', e = .returned (.slice a' 64 c') ∧ SumOut w w' a' 64 c' (hash 5 l) := by
  rw [hash5]
  have hI := IB.new w (init 5) .u64 107
  have T := f88 _ a n c l (hs.mods (alloc_mods w (.cells ((init 5).map (Value.int .u64)).toArray 107)) (fun _ _ f => f)) hl hB w.heap.size (init 5) rfl hI
  go_enter Tryd.func26, Tryd.ntmps26
  go_upto_region 11 with (fail)
  have T2 : Calls Tryd.prog 88 #[.slice a n c, .slice (some ⟨w.heap.size, 0, none⟩) 8 8] (w.alloc (.cells #[.int .u64 7640891576956012808, .int .u64 13503953896175478587, .int .u64 4354685564936845355, .int .u64 11912009170470909681, .int .u64 5840696475078001361, .int .u64 11170449401992604703, .int .u64 2270897969802886507, .int .u64 6620516959819538809] 107)) fun e w' => ∃ a' c', e = .returned (.slice a' 64 c') ∧ SumOut w w' a' 64 c' ((eat64 (init 5) (l ++ padd 128 16 l.length) ((l ++ padd 128 16 l.length).length / 128)).flatMap en8) := by
    refine T.mono ?_
    rintro e w' ⟨a', c', rfl, hO, hN, hM⟩
    exact ⟨a', c', rfl, hO, hN.mono (by simp), (alloc_mods w _).trans' hM (fun i hi e => by omega)⟩
  clear T
  go_wp2_with (go_at_call 88; refine T2.mono ?_; rintro e w' ⟨a', c', rfl, hS⟩)
  go_ret
  exact ⟨a', c', rfl, hS⟩
theorem f26 (w : World) (k : Int) (hk : Kd k) (a : Option Addr) (n c : Nat) (l : List Int) (hs : Sv w 5 1 a n c (bv l)) (hl : Lim (n + 300)) (hB : Byt l) :
    Calls Tryd.prog 26 #[.int .i64 k, .slice a n c] w fun e w' => ∃ a' c', e = .returned (.slice a' (hsz k) c') ∧ SumOut w w' a' (hsz k) c' (hash k l) := by
  obtain rfl | rfl | rfl | rfl | rfl : k = 1 ∨ k = 2 ∨ k = 3 ∨ k = 4 ∨ k = 5 := by have := hk.one; have := hk.five; omega
  · exact f26_1 w a n c l hs hl hB
  · exact f26_2 w a n c l hs hl hB
  · exact f26_3 w a n c l hs hl hB
  · exact f26_4 w a n c l hs hl hB
  · exact f26_5 w a n c l hs hl hB
theorem f26n (w : World) (k : Int) (hk : NoKd k) (a : Option Addr) (n c : Nat) :
    Calls Tryd.prog 26 #[.int .i64 k, .slice a n c] w fun e w' => e = .returned (.slice none 0 0) ∧ w = w' := by
  obtain ⟨h1, h2, h3, h4, h5⟩ := hk.ne
  go_enter Tryd.func26, Tryd.ntmps26
  go_wp2_with fail
  go_ret
  exact ⟨rfl, rfl⟩
end Go.Proofs.YtladijfaeieidaaDoor
