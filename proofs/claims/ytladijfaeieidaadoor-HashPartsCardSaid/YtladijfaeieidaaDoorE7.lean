/- The walk of HashParts: it answers true. Condition: the table of constants stands. -/
import Derived.Test.YtladijfaeieidaaDoorS2
import Derived.Test.YtladijfaeieidaaDoorD3
import Derived.Test.YtladijfaeieidaaDoorD10
import Derived.Test.YtladijfaeieidaaDoorC15
import Derived.Deep.Cut
import Derived.Deep.RegionWith
namespace Go.Proofs.YtladijfaeieidaaDoor
open Go.RowKit

/-- A hash object and the slice of all that it ate. -/
structure PS (w wr : World) (b : Nat) (ah aa : Option Addr) (na ca : Nat) (k : Int) (m ma : List Int) : Prop where
  hn : HN w.heap.size wr b ah k m
  own : Own wr 5 1 aa na ca (bv ma)
  fresh : New w.heap.size aa
  sep : ∀ i, In aa i → i ≠ b ∧ ¬ In ah i
  mods : Mods Nix w wr
theorem HO.ltA {w : World} {b : Nat} {a : Option Addr} {k : Int} {m : List Int} (h : HO w b a k m) (i : Nat) (hi : In a i) : i < w.heap.size := by
  obtain ⟨n, c, h1, h2, h3⟩ := h.ex
  obtain ⟨ad, e, rfl⟩ := hi
  exact h3.toSv.lt ad e
theorem AppOut.at' {w w' : World} {e sz : Nat} {a a' : Option Addr} {k c' m : Nat} {zs : List Value} (h : AppOut w w' e sz a a' k c' m zs) (b : Nat) (hb : In a' b) : In a b ∨ w.heap.size ≤ b := by
  obtain ⟨ad, e1, rfl⟩ := hb
  rcases h.fresh with ⟨ad1, ad2, h1, h2, h3⟩ | h1
  · rw [e1] at h2
    cases h2
    exact .inl ⟨ad1, h1, h3⟩
  · exact .inr (h1 ad e1)
section
variable {w wr w' : World} {b : Nat} {ah aa : Option Addr} {na ca : Nat} {k : Int} {m ma : List Int}
theorem PS.go {S : Nat → Prop} (h : PS w wr b ah aa na ca k m ma) (hM : Mods S wr w') (h1 : ¬ S b) (h2 : ∀ i, In ah i → ¬ S i) (h3 : ∀ i, In aa i → ¬ S i) (h4 : ∀ i, S i → w.heap.size ≤ i) : PS w w' b ah aa na ca k m ma :=
  ⟨⟨h.hn.ho.mods hM h1 h2, h.hn.fresh, h.hn.freshA⟩, h.own.mods hM h3, h.fresh, h.sep, h.mods.trans' hM (fun i hi s => by have := h4 i s; omega)⟩
theorem PS.nix (h : PS w wr b ah aa na ca k m ma) (hM : Mods Nix wr w') : PS w w' b ah aa na ca k m ma :=
  h.go hM (fun f => f) (fun _ _ f => f) (fun _ _ f => f) (fun _ f => f.elim)
theorem PS.app {a' : Option Addr} {np c' : Nat} {l : List Int} (h : PS w wr b ah aa na ca k m ma) (hA : AppOut wr w' 5 1 aa a' (na + np) c' np (bv ma ++ bv l)) : PS w w' b ah a' (na + np) c' k m (ma ++ l) := by
  have hlb := h.hn.ho.lt
  refine ⟨⟨h.hn.ho.mods hA.mods (fun hi => (h.sep b hi).1 rfl) (fun i hi hi2 => (h.sep i hi2).2 hi), h.hn.fresh, h.hn.freshA⟩, by simpa [bv] using hA.own, hA.new h.fresh h.mods.size, fun i hi => ?_, h.mods.trans' hA.mods (fun i hi s => by obtain ⟨ad, e, rfl⟩ := s; have := h.fresh ad e; omega)⟩
  rcases hA.at' i hi with h1 | h1
  · exact h.sep i h1
  · exact ⟨by omega, fun h2 => by have := h.hn.ho.ltA i h2; omega⟩
theorem PS.ate {ah' : Option Addr} {l : List Int} (h : PS w wr b ah aa na ca k m ma) (h1 : HN w.heap.size w' b ah' k (m ++ l)) (h2 : Mods Nix w w') (h3 : Mods (fun i => i = b ∨ In ah i) wr w') (h4 : ∀ i, In ah' i → In ah i ∨ wr.heap.size ≤ i) : PS w w' b ah' aa na ca k (m ++ l) ma := by
  refine ⟨h1, h.own.mods h3 (fun i hi s => s.elim (h.sep i hi).1 (h.sep i hi).2), h.fresh, fun i hi => ⟨(h.sep i hi).1, fun hi2 => ?_⟩, h2⟩
  rcases h4 i hi2 with h5 | h5
  · exact (h.sep i hi).2 h5
  · obtain ⟨ad, e, rfl⟩ := hi
    have := h.own.toSv.lt ad e
    omega
end
/-- HashParts of another kind. -/
theorem f4n (w : World) (hg : GK w) (k : Int) (hk : NoKd k) (a : Option Addr) (n c : Nat) (y : Option Addr) (my cy : Nat) :
    Calls Tryd.prog 4 #[.int .i64 k, .slice a n c, .slice y my cy] w fun e w' => e = .returned (.bool true) ∧ Mods Nix w w' := by
  have T23 := f23 w hg
  have T31 : ∀ w1, Calls Tryd.prog 31 #[.int .i64 k] w1 fun e w' => e = .returned (.pointer none) ∧ w1 = w' := fun w1 => f31n w1 k hk
  have T28 : ∀ w1, Calls Tryd.prog 28 #[.int .i64 k] w1 fun e w' => e = .returned (.int .i64 0) ∧ w1 = w' := fun w1 => f28n hk w1
  go_enter Tryd.func4, Tryd.ntmps4
  go_wp2_with (first | (go_at_call 23; with_reducible refine T23.mono ?_; rintro e w1 ⟨rfl, hM1⟩) | (go_at_call 31; with_reducible refine (T31 _).mono ?_; rintro e w' ⟨rfl, rfl⟩) | (go_at_call 28; with_reducible refine (T28 _).mono ?_; rintro e w' ⟨rfl, rfl⟩) | (go_at_call 32; with_reducible refine (f32n _).mono ?_; rintro e w' ⟨rfl, rfl⟩) | (go_at_call 33; with_reducible refine (f33n _).mono ?_; rintro e w' ⟨rfl, rfl⟩))
  go_ret
  exact ⟨rfl, hM1⟩
/-- A contract for whatever world of a kind. -/
structure HoldsAt (q p : World → Prop) : Prop where
  out : ∀ w', q w' → p w'
theorem step_appg {P : Program} {w : World} {ops : Array Oper} {o : Oper} {a : Act} {K : Act → World → Prop} {Q : Exit → Act → World → Prop} {E : Prop} (hw : Region.wanted o (yielded ops a.tmps) = true) (s x : Operand)
    {t e : TypeId} {z : Value} {sz bytes : Nat} (I : EI P t e z sz bytes) (ho : o.op = .call { callee := .builtin .append, args := #[s, x], argTypes := #[t, t] })
    {a1 a2 : Option Addr} {n c m c2 : Nat} {xs ys : List Value} (hd : Own w e sz a1 n c xs) (hsv : Sv w e sz a2 m c2 ys)
    (hs : a.eval s = .slice a1 n c) (hx : a.eval x = .slice a2 m c2) (h1 : ∀ u ∈ ys, u.oneCell' = true) (hb : (n + m) * bytes ≤ 140737488355328) (h63 : n + m ≤ maxLen)
    (h : ∀ a' c' w', AppOut w w' e sz a1 a' (n + m) c' m (xs ++ ys) → K (a.put o.dst (.slice a' (n + m) c')) w') :
    if Region.wanted o (yielded ops a.tmps) = true then Oper.wp P o a w K Q else E := by
  rw [if_pos hw]
  obtain ⟨a', c', w', hr, h2, h3, h4, h5⟩ := run_app (P := P) w I o.type hd hsv h1 hb h63
  unfold Oper.wp execOp
  simp only [ho, resolve, invoke, builtin, Sem.run_bind, Sem.run_pure, Result.andThen_ok, List.map_toArray, List.map_cons, List.map_nil, hs, hx, hr]
  exact h _ _ _ ⟨h2, h3, h4, h5⟩
/-- The two of them, and a hash object's copy. -/
structure PC (w wr : World) (b : Nat) (ah aa : Option Addr) (na ca : Nat) (k : Int) (m : List Int) (b2 : Nat) (ac : Option Addr) (mc : List Int) : Prop where
  s : PS w wr b ah aa na ca k m m
  c : HN w.heap.size wr b2 ac k mc
theorem PC.nix {w wr w' : World} {b : Nat} {ah aa : Option Addr} {na ca : Nat} {k : Int} {m : List Int} {b2 : Nat} {ac : Option Addr} {mc : List Int} (h : PC w wr b ah aa na ca k m b2 ac mc) (hM : Mods Nix wr w') : PC w w' b ah aa na ca k m b2 ac mc :=
  ⟨h.s.nix hM, ⟨h.c.ho.mods hM (fun f => f) (fun _ _ f => f), h.c.fresh, h.c.freshA⟩⟩
set_option maxRecDepth 100000 in
set_option maxHeartbeats 8000000 in
theorem f4k (w : World) (hg : GK w) (k : Int) (hk : Kd k) (a : Option Addr) (n c : Nat) (hp : Ps w a n c) (y : Option Addr) (my cy : Nat) (lm : List Int) (hy : Sv w 5 1 y my cy (bv lm)) (hyB : Byt lm) :
    Calls Tryd.prog 4 #[.int .i64 k, .slice a n c, .slice y my cy] w fun e w' => e = .returned (.bool true) ∧ Mods Nix w w' := by
  have hz0 : ((hsz k : Int) == 0) = false := by have := hsz_pos hk; simp; omega
  have T23 := f23 w hg
  have T28 : ∀ w1, Calls Tryd.prog 28 #[.int .i64 k] w1 fun e w' => e = .returned (.int .i64 (hsz k)) ∧ w1 = w' := fun w1 => f28 k w1
  have T31 : ∀ w1, Calls Tryd.prog 31 #[.int .i64 k] w1 fun e w' => ∃ b, e = .returned (.pointer (some ⟨b, 0, none⟩)) ∧ NewOut w1 w' b k := fun w1 => f31 w1 k hk
  go_enter Tryd.func4, Tryd.ntmps4
  go_upto_region 9 with (first | (go_at_call 23; with_reducible refine T23.mono ?_; rintro e w1 ⟨rfl, hM1⟩) | (go_at_call 31; with_reducible refine (T31 _).mono ?_; rintro e w2 ⟨b, rfl, hN⟩) | (go_at_call 28; with_reducible refine (T28 _).mono ?_; rintro e w' ⟨rfl, rfl⟩))
  have hS0 : PS w w2 b none none 0 0 k [] [] := ⟨⟨hN.ho, (by have := hN.fresh; have := hM1.size; omega), New.none _⟩, Own.none w2 5 1, New.none _, fun _ hi => (by obtain ⟨_, e, -⟩ := hi; cases e), hM1.trans' hN.mods (fun _ _ f => f)⟩
  clear T23 T28 T31 hz0 hN hM1
  go_wp2_with fail
  go_loopw [9, 10] (fun s i wr => ∃ (t : Nat) (ah aa : Option Addr) (na ca : Nat) (m : List Int), t ≤ n ∧ t ≤ 12 ∧ i = .int .i64 t ∧ s = .slice aa na ca ∧ na ≤ 100 * t ∧ m.length = na ∧ Byt m ∧ PS w wr b ah aa na ca k m m) (fun _ i _ => 12 - (intOf i).toNat)
  case atStart => exact ⟨0, none, none, 0, 0, [], Nat.zero_le _, Nat.zero_le _, rfl, rfl, Nat.zero_le _, rfl, Byt.nil, hS0⟩
  case round =>
    clear hS0
    obtain ⟨t, ah, aa, na, ca, m, ht, ht2, rfl, rfl, hna, hml, hmB, hS⟩ := hrel
    by_cases hlt : t < n ∧ t < 12
    · obtain ⟨hlt, hlt2⟩ := hlt
      obtain ⟨g, o, x, nx, cx, lx, rfl, hx, hPt⟩ := hp.get t hlt
      have hc := hS.mods.cell hx (fun f => f)
      have hcm := hp.cap
      have hnc := hp.le
      have i1 : (t : Int) < n := by omega
      have i2 : (t : Int) < 12 := by omega
      have hPt1 := (hPt.mods hS.mods).min 100
      have hle := hPt.le
      have T24 : ∀ w1, Calls Tryd.prog 24 #[.slice x nx cx, .int .i64 100] w1 fun e w' => e = .returned (.slice x (min nx 100) cx) ∧ w1 = w' := fun w1 => f24w w1 x nx cx hle 100 100 rfl (by omega)
      have h100 : min nx 100 ≤ 100 := Nat.min_le_right _ _
      have h7 : min nx 100 ≤ 70000 := by omega
      obtain ⟨np, hnp⟩ : ∃ np, Eqn np (min nx 100) := ⟨_, ⟨rfl⟩⟩
      rw [← hnp.out] at hPt1 T24 h100 h7
      obtain ⟨pl, hpl⟩ : ∃ pl, Eqn pl (lx.take 100) := ⟨_, ⟨rfl⟩⟩
      rw [← hpl.out] at hPt1
      have hB1 : (na + np) * 1 ≤ 140737488355328 := by omega
      have hB2 : na + np ≤ maxLen := by simp only [maxLen]; omega
      have hpll := hPt1.len
      have hmB2 := hmB.app hPt1.byt
      clear hcm hPt hle hx
      go_upto_region 13 with (first | (go_at_call 24; with_reducible refine (T24 _).mono ?_; rintro e w' ⟨rfl, rfl⟩) | (with_reducible refine wpList_cl rfl _ _ rfl hPt1 rfl rfl h7 ?_; intro ap cp w1 hP; have hS1 := hS.nix hP.mods) | (with_reducible refine wpList_app rfl _ _ ei22 rfl hS1.own hP.own.toSv rfl rfl (bv_one _) hB1 hB2 ?_; intro aa' ca' w2 hA))
      have hS2 := hS1.app hA
      have hapw : ∀ i, In ap i → wr.heap.size ≤ i ∧ i < w1.heap.size := fun i hi => by
        obtain ⟨ad, e, rfl⟩ := hi
        exact ⟨hP.fresh ad e, hP.own.toSv.lt ad e⟩
      have hbw : b < wr.heap.size := hS.hn.ho.lt
      have hP2 := hP.own.mods hA.mods (fun i hi hi2 => by
        have h1 := hapw i hi
        obtain ⟨ad, e, rfl⟩ := hi2
        have := hS.own.toSv.lt ad e
        omega)
      have hLm : Lim (m ++ pl).length := lim_k (by rw [List.length_append]; omega)
      have T34 := f34n w.heap.size w w2 rfl hS2.mods b ah k m hS2.hn ap np cp pl hP2.toSv hPt1.byt hLm (fun hi => by have := hapw b hi; omega) hg
      have hapz := hS.mods.size
      go_upto_region 15 with (first | (go_at_call 34; with_reducible refine T34.mono ?_; rintro e w3 ⟨rfl, ah', hH3, hM3, hM23, hnew⟩))
      have hS3 := hS2.ate hH3 hM3 hM23 hnew
      have hP3 := hP2.mods hM23 (fun i hi s => by
        have h1 := hapw i hi
        rcases s with rfl | s
        · omega
        · have := hS.hn.ho.ltA i s
          omega)
      have hsp : ∀ i, In ap i → i ≠ b ∧ ¬ In ah' i ∧ ¬ In aa' i ∧ w.heap.size ≤ i := fun i hi => by
        have h1 := hapw i hi
        refine ⟨by omega, fun h2 => ?_, fun h2 => ?_, by omega⟩
        · rcases hnew i h2 with h3 | h3
          · have := hS.hn.ho.ltA i h3; omega
          · have := hA.mods.size; omega
        · rcases hA.at' i h2 with ⟨ad, e, rfl⟩ | h3
          · have := hS.own.toSv.lt ad e
            omega
          · omega
      clear T34 T24 hS2 hP2 hS1 hA hP hM3 hM23 hnew hH3 hS hc
      go_wp2_with fail
      go_loopw [12] (fun i w9 => ∃ (j : Nat) (l : List Int), j ≤ np ∧ i = .int .i64 j ∧ PS w w9 b ah' aa' (na + np) ca' k (m ++ pl) (m ++ pl) ∧ Own w9 5 1 ap np cp (bv l)) (fun i _ => np - (intOf i).toNat)
      case atStart => exact ⟨0, pl, Nat.zero_le _, rfl, hS3, hP3⟩
      case round =>
        clear hS3 hP3
        obtain ⟨j, l, hj, rfl, hS3, hP3⟩ := hrel
        by_cases hjn : j < np
        · have hcp := hP3.le
          obtain ⟨gp, rfl⟩ := hP3.addr (by omega)
          have e1 := own_at hP3 j hjn
          have e1f := hP3.frozen j
          have i3 : (j : Int) < np := by omega
          have hnpc : np ≤ 100 := h100
          go_wp2_with fail
          go_roundw
          case measure => simp [intOf]; omega
          case rel =>
            have hM9 : Mods (In (some ⟨gp, 0, none⟩)) wr (wr.setCell ⟨gp, j, none⟩ (.int .u8 9)) := (Mods.refl _ wr).setCell (.inl ⟨_, rfl, rfl⟩) _
            exact ⟨j + 1, l.set j 9, hjn, by go_num, hS3.go hM9 (fun hi => (hsp b hi).1 rfl) (fun i hi hi2 => (hsp i hi2).2.1 hi) (fun i hi hi2 => (hsp i hi2).2.2.1 hi) (fun i hi => (hsp i hi).2.2.2), own_set hP3 j 9⟩
        · obtain rfl : j = np := by omega
          have i3 : ¬ (j : Int) < j := by omega
          have hmp : (m ++ pl).length = na + j := by rw [List.length_append, hml, hpll]
          have hLm3 : Lim ((m ++ pl).length + 300) := lim_k (by omega)
          have T32 : Calls Tryd.prog 32 #[.pointer (some ⟨b, 0, none⟩)] wr.drew fun e w' => ∃ a' c', e = .returned (.slice a' (hsz k) c') ∧ Mods Nix wr w' ∧ PS w w' b ah' aa' (na + j) ca' k (m ++ pl) (m ++ pl) ∧ Cv w' (.slice a' (hsz k) c') (strOfNums (hash k (m ++ pl))) := by
            have hd := (Mods.refl Nix wr).drew
            have hSd := hS3.nix hd
            refine (f32 _ b ah' k _ hSd.hn.ho hLm3 (hg.mods hSd.mods (fun f => f))).mono ?_
            rintro e w' ⟨a', c', rfl, hS9⟩
            exact ⟨a', c', rfl, hd.trans' hS9.mods (fun _ _ f => f), hSd.nix hS9.mods, hS9.own.toSv.cv⟩
          have T26 : HoldsAt (fun w1 => PS w w1 b ah' aa' (na + j) ca' k (m ++ pl) (m ++ pl)) fun w1 => Calls Tryd.prog 26 #[.int .i64 k, .slice aa' (na + j) ca'] w1 fun e w' => ∃ a' c', e = .returned (.slice a' (hsz k) c') ∧ Mods Nix w1 w' ∧ PS w w' b ah' aa' (na + j) ca' k (m ++ pl) (m ++ pl) ∧ (convert 22 9 (.slice a' (hsz k) c')).run Tryd.prog w' = .ok (.string (strOfNums (hash k (m ++ pl)))) w' := ⟨fun w1 hS1 => by
            refine (f26 w1 k hk _ (na + j) ca' _ hS1.own.toSv (lim_k (by omega)) hmB2).mono ?_
            rintro e w' ⟨a', c', rfl, hS9⟩
            exact ⟨a', c', rfl, hS9.mods, hS1.nix hS9.mods, conv hS9.own.toSv⟩⟩
          clear hsp hapw hapz hbw
          go_upto_region 18 with fail
          refine wp_region_any (by kernel_rfl) ?_
          change wpAny _ _ _ _ _ _ _ (World.drew _)
          refine wpAny_take (i := 0) (v := ?_) rfl (by kernel_rfl) (by kernel_rfl) (by kernel_rfl) (fun _ _ _ h => h) (Or.inl ⟨by rfl, ?_⟩) ?_
          rotate_left
          · intro w
            go_simp
            try with_reducible rfl
          simp only [List.getElem_toArray, List.getElem_cons_zero, Act.put, List.setIfInBounds_toArray, List.set_cons_zero, List.set_cons_succ]
          refine wpAny_take (i := 3) (v := ?_) rfl (by kernel_rfl) (by kernel_rfl) (by kernel_rfl) (fun _ _ _ h => h) (Or.inl ⟨by rfl, ?_⟩) ?_
          rotate_left
          · intro w
            go_simp
            try with_reducible rfl
          simp only [List.getElem_toArray, List.getElem_cons_succ, List.getElem_cons_zero, Act.put, List.setIfInBounds_toArray, List.set_cons_zero, List.set_cons_succ]
          refine wpAny_take (i := 4) (v := ?_) rfl (by kernel_rfl) (by kernel_rfl) (by kernel_rfl) (fun _ _ _ h => h) (Or.inl ⟨by rfl, ?_⟩) ?_
          rotate_left
          · intro w
            go_simp
            try with_reducible rfl
          simp only [List.getElem_toArray, List.getElem_cons_succ, List.getElem_cons_zero, Act.put, List.setIfInBounds_toArray, List.set_cons_zero, List.set_cons_succ]
          refine wpAny_ready (rs := [1]) (by kernel_rfl) (by simp) ?_
          refine AllReady.cons rfl (fun K hK => ?_) ?_
          · go_simp
            go_wp2_with (go_at_call 32; with_reducible refine T32.mono ?_; rintro e w5 ⟨a5, c5, rfl, hM5, hP5, cv5⟩; have k5 := cv5.out _ (Mods.refl Nix w5); have T6 := T26.out _ hP5)
            try simp only [List.getElem_toArray, List.getElem_cons_succ, List.getElem_cons_zero, Act.put, List.setIfInBounds_toArray, List.set_cons_zero, List.set_cons_succ]
            refine wpAny_ready (rs := [2, 5]) (by kernel_rfl) (by simp) ?_
            refine AllReady.cons rfl (fun K hK => ?_) ?_
            · go_simp
              refine hK _ _ ?_
              clear hK K
              try simp only [List.getElem_toArray, List.getElem_cons_succ, List.getElem_cons_zero, Act.put, List.setIfInBounds_toArray, List.set_cons_zero, List.set_cons_succ]
              refine wpAny_ready (rs := [5]) (by kernel_rfl) (by simp) ?_
              refine AllReady.cons rfl (fun K hK => ?_) ?_
              · go_simp
                go_wp2_with (go_at_call 26; with_reducible refine T6.mono ?_; rintro e w6 ⟨a6, c6, rfl, hM56, hP6, k6⟩; have k5b := cv5.out _ hM56)
                try simp only [List.getElem_toArray, List.getElem_cons_succ, List.getElem_cons_zero, Act.put, List.setIfInBounds_toArray, List.set_cons_zero, List.set_cons_succ]
                refine wpAny_ready (rs := [6]) (by kernel_rfl) (by simp) ?_
                refine AllReady.cons rfl (fun K hK => ?_) ?_
                · go_simp
                  refine hK _ _ ?_
                  clear hK K
                  try simp only [List.getElem_toArray, List.getElem_cons_succ, List.getElem_cons_zero, Act.put, List.setIfInBounds_toArray, List.set_cons_zero, List.set_cons_succ]
                  refine wpAny_take (i := 7) (v := ?_) rfl (by kernel_rfl) (by kernel_rfl) (by kernel_rfl) (fun _ _ _ h => h) (Or.inl ⟨by rfl, ?_⟩) ?_
                  rotate_left
                  · intro w
                    go_simp
                    try with_reducible rfl
                  simp only [List.getElem_toArray, List.getElem_cons_succ, List.getElem_cons_zero, Act.put, List.setIfInBounds_toArray, List.set_cons_zero, List.set_cons_succ]
                  refine wpAny_done (by kernel_rfl) ?_ _
                  go_wp2_with fail
                  go_roundw
                  case measure => simp [intOf]; omega
                  case rel => exact ⟨t + 1, ah', aa', na + j, ca', m ++ pl, by omega, by omega, by go_num, rfl, by omega, by omega, hmB2, hP6⟩
                exact AllReady.nil
              exact AllReady.nil
            refine AllReady.cons rfl (fun K hK => ?_) ?_
            · go_simp
              go_wp2_with (go_at_call 26; with_reducible refine T6.mono ?_; rintro e w6 ⟨a6, c6, rfl, hM56, hP6, k6⟩; have k5b := cv5.out _ hM56)
              try simp only [List.getElem_toArray, List.getElem_cons_succ, List.getElem_cons_zero, Act.put, List.setIfInBounds_toArray, List.set_cons_zero, List.set_cons_succ]
              refine wpAny_ready (rs := [2, 6]) (by kernel_rfl) (by simp) ?_
              refine AllReady.cons rfl (fun K hK => ?_) ?_
              · go_simp
                refine hK _ _ ?_
                clear hK K
                try simp only [List.getElem_toArray, List.getElem_cons_succ, List.getElem_cons_zero, Act.put, List.setIfInBounds_toArray, List.set_cons_zero, List.set_cons_succ]
                refine wpAny_ready (rs := [6]) (by kernel_rfl) (by simp) ?_
                refine AllReady.cons rfl (fun K hK => ?_) ?_
                · go_simp
                  refine hK _ _ ?_
                  clear hK K
                  try simp only [List.getElem_toArray, List.getElem_cons_succ, List.getElem_cons_zero, Act.put, List.setIfInBounds_toArray, List.set_cons_zero, List.set_cons_succ]
                  refine wpAny_take (i := 7) (v := ?_) rfl (by kernel_rfl) (by kernel_rfl) (by kernel_rfl) (fun _ _ _ h => h) (Or.inl ⟨by rfl, ?_⟩) ?_
                  rotate_left
                  · intro w
                    go_simp
                    try with_reducible rfl
                  simp only [List.getElem_toArray, List.getElem_cons_succ, List.getElem_cons_zero, Act.put, List.setIfInBounds_toArray, List.set_cons_zero, List.set_cons_succ]
                  refine wpAny_done (by kernel_rfl) ?_ _
                  go_wp2_with fail
                  go_roundw
                  case measure => simp [intOf]; omega
                  case rel => exact ⟨t + 1, ah', aa', na + j, ca', m ++ pl, by omega, by omega, by go_num, rfl, by omega, by omega, hmB2, hP6⟩
                exact AllReady.nil
              refine AllReady.cons rfl (fun K hK => ?_) ?_
              · go_simp
                refine hK _ _ ?_
                clear hK K
                try simp only [List.getElem_toArray, List.getElem_cons_succ, List.getElem_cons_zero, Act.put, List.setIfInBounds_toArray, List.set_cons_zero, List.set_cons_succ]
                refine wpAny_ready (rs := [2]) (by kernel_rfl) (by simp) ?_
                refine AllReady.cons rfl (fun K hK => ?_) ?_
                · go_simp
                  refine hK _ _ ?_
                  clear hK K
                  try simp only [List.getElem_toArray, List.getElem_cons_succ, List.getElem_cons_zero, Act.put, List.setIfInBounds_toArray, List.set_cons_zero, List.set_cons_succ]
                  refine wpAny_take (i := 7) (v := ?_) rfl (by kernel_rfl) (by kernel_rfl) (by kernel_rfl) (fun _ _ _ h => h) (Or.inl ⟨by rfl, ?_⟩) ?_
                  rotate_left
                  · intro w
                    go_simp
                    try with_reducible rfl
                  simp only [List.getElem_toArray, List.getElem_cons_succ, List.getElem_cons_zero, Act.put, List.setIfInBounds_toArray, List.set_cons_zero, List.set_cons_succ]
                  refine wpAny_done (by kernel_rfl) ?_ _
                  go_wp2_with fail
                  go_roundw
                  case measure => simp [intOf]; omega
                  case rel => exact ⟨t + 1, ah', aa', na + j, ca', m ++ pl, by omega, by omega, by go_num, rfl, by omega, by omega, hmB2, hP6⟩
                exact AllReady.nil
              exact AllReady.nil
            exact AllReady.nil
          exact AllReady.nil
    · by_cases h9 : t < n
      · have i1 : (t : Int) < n := by omega
        have i2 : ¬ (t : Int) < 12 := by omega
        clear hlt
        have hbw : b < wr.heap.size := hS.hn.ho.lt
        have T33 := f33 wr b ah k m hS.hn.ho
        have T24 : ∀ w1, Calls Tryd.prog 24 #[.slice y my cy, .int .i64 50] w1 fun e w' => e = .returned (.slice y (min my 50) cy) ∧ w1 = w' := fun w1 => f24w w1 y my cy hy.le 50 50 rfl (by omega)
        have hy2 := sv_min hy 50
        have h50 : min my 50 ≤ 50 := Nat.min_le_right _ _
        have hqB := hyB.take 50
        obtain ⟨q, hq⟩ : ∃ q, Eqn q (min my 50) := ⟨_, ⟨rfl⟩⟩
        rw [← hq.out] at hy2 T24 h50
        obtain ⟨lq, hlq⟩ : ∃ lq, Eqn lq (lm.take 50) := ⟨_, ⟨rfl⟩⟩
        rw [← hlq.out] at hy2 hqB
        have hqq : lq.length = q := by have := hy2.len; simpa [bv] using this
        have hB3 : (na + q) * 1 ≤ 140737488355328 := by omega
        have hB4 : na + q ≤ maxLen := by simp only [maxLen]; omega
        have hmqB := hmB.app hqB
        have hL1 : Lim (m ++ lq).length := lim_k (by rw [List.length_append]; omega)
        have hL2 : Lim ((m ++ lq).length + 300) := lim_k (by rw [List.length_append]; omega)
        have hL3 : Lim (m.length + 300) := lim_k (by omega)
        go_upto_region 23 with (go_at_call 33; with_reducible refine T33.mono ?_; rintro e w4 ⟨b2, ac, rfl, hC⟩)
        have hzz := hS.mods.size
        have hS4 := hS.nix hC.mods
        have hyb : ¬ In y b2 := fun ⟨ad, e, hb⟩ => by
          have := hy.lt ad e
          have := hC.fresh
          omega
        have T34 := f34n w.heap.size w w4 rfl hS4.mods b2 ac k m ⟨hC.ho, by have := hC.fresh; omega, fun ad e => by have := hC.freshA ad e; omega⟩ y q cy lq (hy2.mods hS4.mods (fun _ _ f => f)) hqB hL1 hyb hg
        go_upto_region 24 with (first | (go_at_call 24; with_reducible refine (T24 _).mono ?_; rintro e w' ⟨rfl, rfl⟩) | (go_at_call 34; with_reducible refine T34.mono ?_; rintro e w5 ⟨rfl, ac', hH5, hM5, hM45, hnew⟩))
        have hS5 : PC w w5 b ah aa na ca k m b2 ac' (m ++ lq) := by
          refine ⟨hS4.go hM45 ?_ ?_ ?_ ?_, hH5⟩
          · rintro (h | ⟨ad, e, h⟩)
            · have := hC.fresh; omega
            · have := hC.freshA ad e; omega
          · intro i hi h
            have h0 := hS.hn.ho.ltA i hi
            rcases h with rfl | ⟨ad, e, h⟩
            · have := hC.fresh; omega
            · have := hC.freshA ad e; omega
          · rintro i ⟨ad0, e0, rfl⟩ h
            have h0 := hS.own.toSv.lt ad0 e0
            rcases h with h | ⟨ad, e, h⟩
            · have := hC.fresh; omega
            · have := hC.freshA ad e; omega
          · rintro i (rfl | ⟨ad, e, rfl⟩)
            · have := hC.fresh; omega
            · have := hC.freshA ad e; omega
        clear T33 T34 hC hS4 hH5 hM5 hM45 hnew hyb hzz hS hbw hy hyB
        have T32 : Calls Tryd.prog 32 #[.pointer (some ⟨b, 0, none⟩)] w5.drew fun e w' => ∃ a' c', e = .returned (.slice a' (hsz k) c') ∧ PC w w' b ah aa na ca k m b2 ac' (m ++ lq) ∧ Cv w' (.slice a' (hsz k) c') (strOfNums (hash k m)) := by
          have hSd := hS5.nix (Mods.refl Nix w5).drew
          refine (f32 _ b ah k _ hSd.s.hn.ho hL3 (hg.mods hSd.s.mods (fun f => f))).mono ?_
          rintro e w' ⟨a', c', rfl, hS9⟩
          exact ⟨a', c', rfl, hSd.nix hS9.mods, hS9.own.toSv.cv⟩
        have T26 : HoldsAt (fun w1 => PC w w1 b ah aa na ca k m b2 ac' (m ++ lq)) fun w1 => Calls Tryd.prog 26 #[.int .i64 k, .slice aa na ca] w1 fun e w' => ∃ a' c', e = .returned (.slice a' (hsz k) c') ∧ Mods Nix w1 w' ∧ PC w w' b ah aa na ca k m b2 ac' (m ++ lq) ∧ (convert 22 9 (.slice a' (hsz k) c')).run Tryd.prog w' = .ok (.string (strOfNums (hash k m))) w' := ⟨fun w1 hS1 => by
          refine (f26 w1 k hk _ na ca _ hS1.s.own.toSv (lim_k (by omega)) hmB).mono ?_
          rintro e w' ⟨a', c', rfl, hS9⟩
          exact ⟨a', c', rfl, hS9.mods, hS1.nix hS9.mods, conv hS9.own.toSv⟩⟩
        have T32c : HoldsAt (fun w1 => PC w w1 b ah aa na ca k m b2 ac' (m ++ lq)) fun w1 => Calls Tryd.prog 32 #[.pointer (some ⟨b2, 0, none⟩)] w1 fun e w' => ∃ a' c', e = .returned (.slice a' (hsz k) c') ∧ PC w w' b ah aa na ca k m b2 ac' (m ++ lq) ∧ (∀ i, In a' i → ¬ In aa i) ∧ Sv w' 5 1 a' (hsz k) c' (bv (hash k (m ++ lq))) := ⟨fun w1 hS1 => by
          refine (f32 _ b2 ac' k _ hS1.c.ho hL2 (hg.mods hS1.s.mods (fun f => f))).mono ?_
          rintro e w' ⟨a', c', rfl, hS9⟩
          refine ⟨a', c', rfl, hS1.nix hS9.mods, fun i hi hi2 => ?_, hS9.own.toSv⟩
          obtain ⟨ad, e, rfl⟩ := hi
          obtain ⟨ad2, e2, h2⟩ := hi2
          have h3 := hS9.fresh ad e
          have h4 := hS1.s.own.toSv.lt ad2 e2
          omega⟩
        have T26b : ∀ {w7 w8 a8 c8}, PC w w7 b ah aa na ca k m b2 ac' (m ++ lq) → AppOut w7 w8 5 1 aa a8 (na + q) c8 q (bv m ++ bv lq) → Calls Tryd.prog 26 #[.int .i64 k, .slice a8 (na + q) c8] w8 fun e w' => ∃ a' c', e = .returned (.slice a' (hsz k) c') ∧ Mods Nix w8 w' ∧ Mods Nix w w' ∧ (convert 22 9 (.slice a' (hsz k) c')).run Tryd.prog w' = .ok (.string (strOfNums (hash k (m ++ lq)))) w' := by
          intro w7 w8 a8 c8 h1 hA
          have hb : bv m ++ bv lq = bv (m ++ lq) := by simp [bv]
          rw [hb] at hA
          refine (f26 w8 k hk _ (na + q) c8 _ hA.own.toSv (lim_k (by omega)) hmqB).mono ?_
          rintro e w' ⟨a', c', rfl, hS9⟩
          refine ⟨a', c', rfl, hS9.mods, (h1.s.mods.trans' hA.mods (fun i hi s => ?_)).trans' hS9.mods (fun _ _ f => f), conv hS9.own.toSv⟩
          obtain ⟨ad, e, rfl⟩ := s
          have := h1.s.fresh ad e
          omega
        clear hS5
        refine wp_region_any (by kernel_rfl) ?_
        change wpAny _ _ _ _ _ _ _ (World.drew _)
        refine wpAny_take (i := 0) (v := ?_) rfl (by kernel_rfl) (by kernel_rfl) (by kernel_rfl) (fun _ _ _ h => h) (Or.inl ⟨by rfl, ?_⟩) ?_
        rotate_left
        · intro w
          go_simp
          try with_reducible rfl
        simp only [List.getElem_toArray, List.getElem_cons_zero, Act.put, List.setIfInBounds_toArray, List.set_cons_zero, List.set_cons_succ]
        refine wpAny_take (i := 1) (v := ?_) rfl (by kernel_rfl) (by kernel_rfl) (by kernel_rfl) (fun _ _ _ h => h) (Or.inl ⟨by rfl, ?_⟩) ?_
        rotate_left
        · intro w
          go_simp
          try with_reducible rfl
        simp only [List.getElem_toArray, List.getElem_cons_succ, List.getElem_cons_zero, Act.put, List.setIfInBounds_toArray, List.set_cons_zero, List.set_cons_succ]
        refine wpAny_take (i := 2) (v := ?_) rfl (by kernel_rfl) (by kernel_rfl) (by kernel_rfl) (fun _ _ _ h => h) (Or.inl ⟨by rfl, ?_⟩) ?_
        rotate_left
        · intro w
          go_simp
          try with_reducible rfl
        simp only [List.getElem_toArray, List.getElem_cons_succ, List.getElem_cons_zero, Act.put, List.setIfInBounds_toArray, List.set_cons_zero, List.set_cons_succ]
        refine wpAny_take (i := 5) (v := ?_) rfl (by kernel_rfl) (by kernel_rfl) (by kernel_rfl) (fun _ _ _ h => h) (Or.inl ⟨by rfl, ?_⟩) ?_
        rotate_left
        · intro w
          go_simp
          try with_reducible rfl
        simp only [List.getElem_toArray, List.getElem_cons_succ, List.getElem_cons_zero, Act.put, List.setIfInBounds_toArray, List.set_cons_zero, List.set_cons_succ]
        refine wpAny_take (i := 6) (v := ?_) rfl (by kernel_rfl) (by kernel_rfl) (by kernel_rfl) (fun _ _ _ h => h) (Or.inl ⟨by rfl, ?_⟩) ?_
        rotate_left
        · intro w
          go_simp
          try with_reducible rfl
        simp only [List.getElem_toArray, List.getElem_cons_succ, List.getElem_cons_zero, Act.put, List.setIfInBounds_toArray, List.set_cons_zero, List.set_cons_succ]
        refine wpAny_ready (rs := [3]) (by kernel_rfl) (by simp) ?_
        refine AllReady.cons rfl (fun K hK => ?_) ?_
        · go_simp
          go_wp2_with (go_at_call 32; with_reducible refine T32.mono ?_; rintro e w5 ⟨a5, c5, rfl, hS5, cv5⟩; have k5 := cv5.out _ (Mods.refl Nix w5); have T6 := T26.out _ hS5)
          try simp only [List.getElem_toArray, List.getElem_cons_succ, List.getElem_cons_zero, Act.put, List.setIfInBounds_toArray, List.set_cons_zero, List.set_cons_succ]
          refine wpAny_ready (rs := [4, 7]) (by kernel_rfl) (by simp) ?_
          refine AllReady.cons rfl (fun K hK => ?_) ?_
          · go_simp
            refine hK _ _ ?_
            clear hK K
            try simp only [List.getElem_toArray, List.getElem_cons_succ, List.getElem_cons_zero, Act.put, List.setIfInBounds_toArray, List.set_cons_zero, List.set_cons_succ]
            refine wpAny_ready (rs := [7]) (by kernel_rfl) (by simp) ?_
            refine AllReady.cons rfl (fun K hK => ?_) ?_
            · go_simp
              go_wp2_with (go_at_call 26; with_reducible refine T6.mono ?_; rintro e w6 ⟨a6, c6, rfl, hM56, hS6, k6⟩; have k5b := cv5.out _ hM56; have T7 := T32c.out _ hS6)
              try simp only [List.getElem_toArray, List.getElem_cons_succ, List.getElem_cons_zero, Act.put, List.setIfInBounds_toArray, List.set_cons_zero, List.set_cons_succ]
              refine wpAny_ready (rs := [8]) (by kernel_rfl) (by simp) ?_
              refine AllReady.cons rfl (fun K hK => ?_) ?_
              · go_simp
                refine hK _ _ ?_
                clear hK K
                try simp only [List.getElem_toArray, List.getElem_cons_succ, List.getElem_cons_zero, Act.put, List.setIfInBounds_toArray, List.set_cons_zero, List.set_cons_succ]
                refine wpAny_take (i := 9) (v := ?_) rfl (by kernel_rfl) (by kernel_rfl) (by kernel_rfl) (fun _ _ _ h => h) (Or.inl ⟨by rfl, ?_⟩) ?_
                rotate_left
                · intro w
                  go_simp
                  try with_reducible rfl
                simp only [List.getElem_toArray, List.getElem_cons_succ, List.getElem_cons_zero, Act.put, List.setIfInBounds_toArray, List.set_cons_zero, List.set_cons_succ]
                refine wpAny_take (i := 10) (v := ?_) rfl (by kernel_rfl) (by kernel_rfl) (by kernel_rfl) (fun _ _ _ h => h) (Or.inl ⟨by rfl, ?_⟩) ?_
                rotate_left
                · intro w
                  go_simp
                  try with_reducible rfl
                simp only [List.getElem_toArray, List.getElem_cons_succ, List.getElem_cons_zero, Act.put, List.setIfInBounds_toArray, List.set_cons_zero, List.set_cons_succ]
                refine wpAny_take (i := 11) (v := ?_) rfl (by kernel_rfl) (by kernel_rfl) (by kernel_rfl) (fun _ _ _ h => h) (Or.inl ⟨by rfl, ?_⟩) ?_
                rotate_left
                · intro w
                  go_simp
                  try with_reducible rfl
                simp only [List.getElem_toArray, List.getElem_cons_succ, List.getElem_cons_zero, Act.put, List.setIfInBounds_toArray, List.set_cons_zero, List.set_cons_succ]
                refine wpAny_take (i := 12) (v := ?_) rfl (by kernel_rfl) (by kernel_rfl) (by kernel_rfl) (fun _ _ _ h => h) (Or.inl ⟨by rfl, ?_⟩) ?_
                rotate_left
                · intro w
                  go_simp
                  try with_reducible rfl
                simp only [List.getElem_toArray, List.getElem_cons_succ, List.getElem_cons_zero, Act.put, List.setIfInBounds_toArray, List.set_cons_zero, List.set_cons_succ]
                refine wpAny_take (i := 15) (v := ?_) rfl (by kernel_rfl) (by kernel_rfl) (by kernel_rfl) (fun _ _ _ h => h) (Or.inl ⟨by rfl, ?_⟩) ?_
                rotate_left
                · intro w
                  go_simp
                  try with_reducible rfl
                simp only [List.getElem_toArray, List.getElem_cons_succ, List.getElem_cons_zero, Act.put, List.setIfInBounds_toArray, List.set_cons_zero, List.set_cons_succ]
                refine wpAny_take (i := 16) (v := ?_) rfl (by kernel_rfl) (by kernel_rfl) (by kernel_rfl) (fun _ _ _ h => h) (Or.inl ⟨by rfl, ?_⟩) ?_
                rotate_left
                · intro w
                  go_simp
                  try with_reducible rfl
                simp only [List.getElem_toArray, List.getElem_cons_succ, List.getElem_cons_zero, Act.put, List.setIfInBounds_toArray, List.set_cons_zero, List.set_cons_succ]
                refine wpAny_take (i := 17) (v := ?_) rfl (by kernel_rfl) (by kernel_rfl) (by kernel_rfl) (fun _ _ _ h => h) (Or.inl ⟨by rfl, ?_⟩) ?_
                rotate_left
                · intro w
                  go_simp
                  try with_reducible rfl
                simp only [List.getElem_toArray, List.getElem_cons_succ, List.getElem_cons_zero, Act.put, List.setIfInBounds_toArray, List.set_cons_zero, List.set_cons_succ]
                refine wpAny_ready (rs := [13]) (by kernel_rfl) (by simp) ?_
                refine AllReady.cons rfl (fun K hK => ?_) ?_
                · go_simp
                  go_wp2_with (go_at_call 32; with_reducible refine T7.mono ?_; rintro e w7 ⟨a7, c7, rfl, hS7, hd7, sv7⟩; have k7 := conv sv7)
                  try simp only [List.getElem_toArray, List.getElem_cons_succ, List.getElem_cons_zero, Act.put, List.setIfInBounds_toArray, List.set_cons_zero, List.set_cons_succ]
                  refine wpAny_ready (rs := [14, 18]) (by kernel_rfl) (by simp) ?_
                  refine AllReady.cons rfl (fun K hK => ?_) ?_
                  · go_simp
                    refine hK _ _ ?_
                    clear hK K
                    try simp only [List.getElem_toArray, List.getElem_cons_succ, List.getElem_cons_zero, Act.put, List.setIfInBounds_toArray, List.set_cons_zero, List.set_cons_succ]
                    refine wpAny_ready (rs := [18]) (by kernel_rfl) (by simp) ?_
                    refine AllReady.cons rfl (fun K hK => ?_) ?_
                    · go_simp
                      go_wp2_with (go_at_call 24; with_reducible refine (T24 _).mono ?_; rintro e w' ⟨rfl, rfl⟩)
                      try simp only [List.getElem_toArray, List.getElem_cons_succ, List.getElem_cons_zero, Act.put, List.setIfInBounds_toArray, List.set_cons_zero, List.set_cons_succ]
                      refine wpAny_ready (rs := [19]) (by kernel_rfl) (by simp) ?_
                      refine AllReady.cons rfl (fun K hK => ?_) ?_
                      · refine step_appg (by first | rfl | kernel_rfl) _ _ ei22 rfl hS7.s.own (hy2.mods hS7.s.mods (fun _ _ f => f)) rfl rfl (bv_one _) hB3 hB4 ?_; intro a8 c8 w8 hA; have T8 := T26b hS7 hA; have sv7b := sv7.mods hA.mods hd7; have k7b := conv sv7b
                        refine hK _ _ ?_
                        clear hK K
                        try simp only [List.getElem_toArray, List.getElem_cons_succ, List.getElem_cons_zero, Act.put, List.setIfInBounds_toArray, List.set_cons_zero, List.set_cons_succ]
                        refine wpAny_ready (rs := [20]) (by kernel_rfl) (by simp) ?_
                        refine AllReady.cons rfl (fun K hK => ?_) ?_
                        · go_simp
                          go_wp2_with (go_at_call 26; with_reducible refine T8.mono ?_; rintro e w9 ⟨a9, c9, rfl, hM89, hM9, k9⟩; have k7c := conv (sv7b.mods hM89 (fun _ _ f => f)))
                          try simp only [List.getElem_toArray, List.getElem_cons_succ, List.getElem_cons_zero, Act.put, List.setIfInBounds_toArray, List.set_cons_zero, List.set_cons_succ]
                          refine wpAny_ready (rs := [21]) (by kernel_rfl) (by simp) ?_
                          refine AllReady.cons rfl (fun K hK => ?_) ?_
                          · go_simp
                            refine hK _ _ ?_
                            clear hK K
                            try simp only [List.getElem_toArray, List.getElem_cons_succ, List.getElem_cons_zero, Act.put, List.setIfInBounds_toArray, List.set_cons_zero, List.set_cons_succ]
                            refine wpAny_take (i := 22) (v := ?_) rfl (by kernel_rfl) (by kernel_rfl) (by kernel_rfl) (fun _ _ _ h => h) (Or.inl ⟨by rfl, ?_⟩) ?_
                            rotate_left
                            · intro w
                              go_simp
                              try with_reducible rfl
                            simp only [List.getElem_toArray, List.getElem_cons_succ, List.getElem_cons_zero, Act.put, List.setIfInBounds_toArray, List.set_cons_zero, List.set_cons_succ]
                            refine wpAny_take (i := 23) (v := ?_) rfl (by kernel_rfl) (by kernel_rfl) (by kernel_rfl) (fun _ _ _ h => h) (Or.inl ⟨by rfl, ?_⟩) ?_
                            rotate_left
                            · intro w
                              go_simp
                              try with_reducible rfl
                            simp only [List.getElem_toArray, List.getElem_cons_succ, List.getElem_cons_zero, Act.put, List.setIfInBounds_toArray, List.set_cons_zero, List.set_cons_succ]
                            refine wpAny_take (i := 24) (v := ?_) rfl (by kernel_rfl) (by kernel_rfl) (by kernel_rfl) (fun _ _ _ h => h) (Or.inl ⟨by rfl, ?_⟩) ?_
                            rotate_left
                            · intro w
                              go_simp
                              try with_reducible rfl
                            simp only [List.getElem_toArray, List.getElem_cons_succ, List.getElem_cons_zero, Act.put, List.setIfInBounds_toArray, List.set_cons_zero, List.set_cons_succ]
                            refine wpAny_done (by kernel_rfl) ?_ _
                            go_wp2_with fail
                            go_ret
                            exact ⟨rfl, hM9⟩
                          exact AllReady.nil
                        exact AllReady.nil
                      exact AllReady.nil
                    exact AllReady.nil
                  refine AllReady.cons rfl (fun K hK => ?_) ?_
                  · go_simp
                    go_wp2_with (go_at_call 24; with_reducible refine (T24 _).mono ?_; rintro e w' ⟨rfl, rfl⟩)
                    try simp only [List.getElem_toArray, List.getElem_cons_succ, List.getElem_cons_zero, Act.put, List.setIfInBounds_toArray, List.set_cons_zero, List.set_cons_succ]
                    refine wpAny_ready (rs := [14, 19]) (by kernel_rfl) (by simp) ?_
                    refine AllReady.cons rfl (fun K hK => ?_) ?_
                    · go_simp
                      refine hK _ _ ?_
                      clear hK K
                      try simp only [List.getElem_toArray, List.getElem_cons_succ, List.getElem_cons_zero, Act.put, List.setIfInBounds_toArray, List.set_cons_zero, List.set_cons_succ]
                      refine wpAny_ready (rs := [19]) (by kernel_rfl) (by simp) ?_
                      refine AllReady.cons rfl (fun K hK => ?_) ?_
                      · refine step_appg (by first | rfl | kernel_rfl) _ _ ei22 rfl hS7.s.own (hy2.mods hS7.s.mods (fun _ _ f => f)) rfl rfl (bv_one _) hB3 hB4 ?_; intro a8 c8 w8 hA; have T8 := T26b hS7 hA; have sv7b := sv7.mods hA.mods hd7; have k7b := conv sv7b
                        refine hK _ _ ?_
                        clear hK K
                        try simp only [List.getElem_toArray, List.getElem_cons_succ, List.getElem_cons_zero, Act.put, List.setIfInBounds_toArray, List.set_cons_zero, List.set_cons_succ]
                        refine wpAny_ready (rs := [20]) (by kernel_rfl) (by simp) ?_
                        refine AllReady.cons rfl (fun K hK => ?_) ?_
                        · go_simp
                          go_wp2_with (go_at_call 26; with_reducible refine T8.mono ?_; rintro e w9 ⟨a9, c9, rfl, hM89, hM9, k9⟩; have k7c := conv (sv7b.mods hM89 (fun _ _ f => f)))
                          try simp only [List.getElem_toArray, List.getElem_cons_succ, List.getElem_cons_zero, Act.put, List.setIfInBounds_toArray, List.set_cons_zero, List.set_cons_succ]
                          refine wpAny_ready (rs := [21]) (by kernel_rfl) (by simp) ?_
                          refine AllReady.cons rfl (fun K hK => ?_) ?_
                          · go_simp
                            refine hK _ _ ?_
                            clear hK K
                            try simp only [List.getElem_toArray, List.getElem_cons_succ, List.getElem_cons_zero, Act.put, List.setIfInBounds_toArray, List.set_cons_zero, List.set_cons_succ]
                            refine wpAny_take (i := 22) (v := ?_) rfl (by kernel_rfl) (by kernel_rfl) (by kernel_rfl) (fun _ _ _ h => h) (Or.inl ⟨by rfl, ?_⟩) ?_
                            rotate_left
                            · intro w
                              go_simp
                              try with_reducible rfl
                            simp only [List.getElem_toArray, List.getElem_cons_succ, List.getElem_cons_zero, Act.put, List.setIfInBounds_toArray, List.set_cons_zero, List.set_cons_succ]
                            refine wpAny_take (i := 23) (v := ?_) rfl (by kernel_rfl) (by kernel_rfl) (by kernel_rfl) (fun _ _ _ h => h) (Or.inl ⟨by rfl, ?_⟩) ?_
                            rotate_left
                            · intro w
                              go_simp
                              try with_reducible rfl
                            simp only [List.getElem_toArray, List.getElem_cons_succ, List.getElem_cons_zero, Act.put, List.setIfInBounds_toArray, List.set_cons_zero, List.set_cons_succ]
                            refine wpAny_take (i := 24) (v := ?_) rfl (by kernel_rfl) (by kernel_rfl) (by kernel_rfl) (fun _ _ _ h => h) (Or.inl ⟨by rfl, ?_⟩) ?_
                            rotate_left
                            · intro w
                              go_simp
                              try with_reducible rfl
                            simp only [List.getElem_toArray, List.getElem_cons_succ, List.getElem_cons_zero, Act.put, List.setIfInBounds_toArray, List.set_cons_zero, List.set_cons_succ]
                            refine wpAny_done (by kernel_rfl) ?_ _
                            go_wp2_with fail
                            go_ret
                            exact ⟨rfl, hM9⟩
                          exact AllReady.nil
                        exact AllReady.nil
                      exact AllReady.nil
                    refine AllReady.cons rfl (fun K hK => ?_) ?_
                    · refine step_appg (by first | rfl | kernel_rfl) _ _ ei22 rfl hS7.s.own (hy2.mods hS7.s.mods (fun _ _ f => f)) rfl rfl (bv_one _) hB3 hB4 ?_; intro a8 c8 w8 hA; have T8 := T26b hS7 hA; have sv7b := sv7.mods hA.mods hd7; have k7b := conv sv7b
                      refine hK _ _ ?_
                      clear hK K
                      try simp only [List.getElem_toArray, List.getElem_cons_succ, List.getElem_cons_zero, Act.put, List.setIfInBounds_toArray, List.set_cons_zero, List.set_cons_succ]
                      refine wpAny_ready (rs := [14, 20]) (by kernel_rfl) (by simp) ?_
                      refine AllReady.cons rfl (fun K hK => ?_) ?_
                      · go_simp
                        refine hK _ _ ?_
                        clear hK K
                        try simp only [List.getElem_toArray, List.getElem_cons_succ, List.getElem_cons_zero, Act.put, List.setIfInBounds_toArray, List.set_cons_zero, List.set_cons_succ]
                        refine wpAny_ready (rs := [20]) (by kernel_rfl) (by simp) ?_
                        refine AllReady.cons rfl (fun K hK => ?_) ?_
                        · go_simp
                          go_wp2_with (go_at_call 26; with_reducible refine T8.mono ?_; rintro e w9 ⟨a9, c9, rfl, hM89, hM9, k9⟩; have k7c := conv (sv7b.mods hM89 (fun _ _ f => f)))
                          try simp only [List.getElem_toArray, List.getElem_cons_succ, List.getElem_cons_zero, Act.put, List.setIfInBounds_toArray, List.set_cons_zero, List.set_cons_succ]
                          refine wpAny_ready (rs := [21]) (by kernel_rfl) (by simp) ?_
                          refine AllReady.cons rfl (fun K hK => ?_) ?_
                          · go_simp
                            refine hK _ _ ?_
                            clear hK K
                            try simp only [List.getElem_toArray, List.getElem_cons_succ, List.getElem_cons_zero, Act.put, List.setIfInBounds_toArray, List.set_cons_zero, List.set_cons_succ]
                            refine wpAny_take (i := 22) (v := ?_) rfl (by kernel_rfl) (by kernel_rfl) (by kernel_rfl) (fun _ _ _ h => h) (Or.inl ⟨by rfl, ?_⟩) ?_
                            rotate_left
                            · intro w
                              go_simp
                              try with_reducible rfl
                            simp only [List.getElem_toArray, List.getElem_cons_succ, List.getElem_cons_zero, Act.put, List.setIfInBounds_toArray, List.set_cons_zero, List.set_cons_succ]
                            refine wpAny_take (i := 23) (v := ?_) rfl (by kernel_rfl) (by kernel_rfl) (by kernel_rfl) (fun _ _ _ h => h) (Or.inl ⟨by rfl, ?_⟩) ?_
                            rotate_left
                            · intro w
                              go_simp
                              try with_reducible rfl
                            simp only [List.getElem_toArray, List.getElem_cons_succ, List.getElem_cons_zero, Act.put, List.setIfInBounds_toArray, List.set_cons_zero, List.set_cons_succ]
                            refine wpAny_take (i := 24) (v := ?_) rfl (by kernel_rfl) (by kernel_rfl) (by kernel_rfl) (fun _ _ _ h => h) (Or.inl ⟨by rfl, ?_⟩) ?_
                            rotate_left
                            · intro w
                              go_simp
                              try with_reducible rfl
                            simp only [List.getElem_toArray, List.getElem_cons_succ, List.getElem_cons_zero, Act.put, List.setIfInBounds_toArray, List.set_cons_zero, List.set_cons_succ]
                            refine wpAny_done (by kernel_rfl) ?_ _
                            go_wp2_with fail
                            go_ret
                            exact ⟨rfl, hM9⟩
                          exact AllReady.nil
                        exact AllReady.nil
                      refine AllReady.cons rfl (fun K hK => ?_) ?_
                      · go_simp
                        go_wp2_with (go_at_call 26; with_reducible refine T8.mono ?_; rintro e w9 ⟨a9, c9, rfl, hM89, hM9, k9⟩; have k7c := conv (sv7b.mods hM89 (fun _ _ f => f)))
                        try simp only [List.getElem_toArray, List.getElem_cons_succ, List.getElem_cons_zero, Act.put, List.setIfInBounds_toArray, List.set_cons_zero, List.set_cons_succ]
                        refine wpAny_ready (rs := [14, 21]) (by kernel_rfl) (by simp) ?_
                        refine AllReady.cons rfl (fun K hK => ?_) ?_
                        · go_simp
                          refine hK _ _ ?_
                          clear hK K
                          try simp only [List.getElem_toArray, List.getElem_cons_succ, List.getElem_cons_zero, Act.put, List.setIfInBounds_toArray, List.set_cons_zero, List.set_cons_succ]
                          refine wpAny_ready (rs := [21]) (by kernel_rfl) (by simp) ?_
                          refine AllReady.cons rfl (fun K hK => ?_) ?_
                          · go_simp
                            refine hK _ _ ?_
                            clear hK K
                            try simp only [List.getElem_toArray, List.getElem_cons_succ, List.getElem_cons_zero, Act.put, List.setIfInBounds_toArray, List.set_cons_zero, List.set_cons_succ]
                            refine wpAny_take (i := 22) (v := ?_) rfl (by kernel_rfl) (by kernel_rfl) (by kernel_rfl) (fun _ _ _ h => h) (Or.inl ⟨by rfl, ?_⟩) ?_
                            rotate_left
                            · intro w
                              go_simp
                              try with_reducible rfl
                            simp only [List.getElem_toArray, List.getElem_cons_succ, List.getElem_cons_zero, Act.put, List.setIfInBounds_toArray, List.set_cons_zero, List.set_cons_succ]
                            refine wpAny_take (i := 23) (v := ?_) rfl (by kernel_rfl) (by kernel_rfl) (by kernel_rfl) (fun _ _ _ h => h) (Or.inl ⟨by rfl, ?_⟩) ?_
                            rotate_left
                            · intro w
                              go_simp
                              try with_reducible rfl
                            simp only [List.getElem_toArray, List.getElem_cons_succ, List.getElem_cons_zero, Act.put, List.setIfInBounds_toArray, List.set_cons_zero, List.set_cons_succ]
                            refine wpAny_take (i := 24) (v := ?_) rfl (by kernel_rfl) (by kernel_rfl) (by kernel_rfl) (fun _ _ _ h => h) (Or.inl ⟨by rfl, ?_⟩) ?_
                            rotate_left
                            · intro w
                              go_simp
                              try with_reducible rfl
                            simp only [List.getElem_toArray, List.getElem_cons_succ, List.getElem_cons_zero, Act.put, List.setIfInBounds_toArray, List.set_cons_zero, List.set_cons_succ]
                            refine wpAny_done (by kernel_rfl) ?_ _
                            go_wp2_with fail
                            go_ret
                            exact ⟨rfl, hM9⟩
                          exact AllReady.nil
                        refine AllReady.cons rfl (fun K hK => ?_) ?_
                        · go_simp
                          refine hK _ _ ?_
                          clear hK K
                          try simp only [List.getElem_toArray, List.getElem_cons_succ, List.getElem_cons_zero, Act.put, List.setIfInBounds_toArray, List.set_cons_zero, List.set_cons_succ]
                          refine wpAny_ready (rs := [14]) (by kernel_rfl) (by simp) ?_
                          refine AllReady.cons rfl (fun K hK => ?_) ?_
                          · go_simp
                            refine hK _ _ ?_
                            clear hK K
                            try simp only [List.getElem_toArray, List.getElem_cons_succ, List.getElem_cons_zero, Act.put, List.setIfInBounds_toArray, List.set_cons_zero, List.set_cons_succ]
                            refine wpAny_take (i := 22) (v := ?_) rfl (by kernel_rfl) (by kernel_rfl) (by kernel_rfl) (fun _ _ _ h => h) (Or.inl ⟨by rfl, ?_⟩) ?_
                            rotate_left
                            · intro w
                              go_simp
                              try with_reducible rfl
                            simp only [List.getElem_toArray, List.getElem_cons_succ, List.getElem_cons_zero, Act.put, List.setIfInBounds_toArray, List.set_cons_zero, List.set_cons_succ]
                            refine wpAny_take (i := 23) (v := ?_) rfl (by kernel_rfl) (by kernel_rfl) (by kernel_rfl) (fun _ _ _ h => h) (Or.inl ⟨by rfl, ?_⟩) ?_
                            rotate_left
                            · intro w
                              go_simp
                              try with_reducible rfl
                            simp only [List.getElem_toArray, List.getElem_cons_succ, List.getElem_cons_zero, Act.put, List.setIfInBounds_toArray, List.set_cons_zero, List.set_cons_succ]
                            refine wpAny_take (i := 24) (v := ?_) rfl (by kernel_rfl) (by kernel_rfl) (by kernel_rfl) (fun _ _ _ h => h) (Or.inl ⟨by rfl, ?_⟩) ?_
                            rotate_left
                            · intro w
                              go_simp
                              try with_reducible rfl
                            simp only [List.getElem_toArray, List.getElem_cons_succ, List.getElem_cons_zero, Act.put, List.setIfInBounds_toArray, List.set_cons_zero, List.set_cons_succ]
                            refine wpAny_done (by kernel_rfl) ?_ _
                            go_wp2_with fail
                            go_ret
                            exact ⟨rfl, hM9⟩
                          exact AllReady.nil
                        exact AllReady.nil
                      exact AllReady.nil
                    exact AllReady.nil
                  exact AllReady.nil
                exact AllReady.nil
              exact AllReady.nil
            exact AllReady.nil
          refine AllReady.cons rfl (fun K hK => ?_) ?_
          · go_simp
            go_wp2_with (go_at_call 26; with_reducible refine T6.mono ?_; rintro e w6 ⟨a6, c6, rfl, hM56, hS6, k6⟩; have k5b := cv5.out _ hM56; have T7 := T32c.out _ hS6)
            try simp only [List.getElem_toArray, List.getElem_cons_succ, List.getElem_cons_zero, Act.put, List.setIfInBounds_toArray, List.set_cons_zero, List.set_cons_succ]
            refine wpAny_ready (rs := [4, 8]) (by kernel_rfl) (by simp) ?_
            refine AllReady.cons rfl (fun K hK => ?_) ?_
            · go_simp
              refine hK _ _ ?_
              clear hK K
              try simp only [List.getElem_toArray, List.getElem_cons_succ, List.getElem_cons_zero, Act.put, List.setIfInBounds_toArray, List.set_cons_zero, List.set_cons_succ]
              refine wpAny_ready (rs := [8]) (by kernel_rfl) (by simp) ?_
              refine AllReady.cons rfl (fun K hK => ?_) ?_
              · go_simp
                refine hK _ _ ?_
                clear hK K
                try simp only [List.getElem_toArray, List.getElem_cons_succ, List.getElem_cons_zero, Act.put, List.setIfInBounds_toArray, List.set_cons_zero, List.set_cons_succ]
                refine wpAny_take (i := 9) (v := ?_) rfl (by kernel_rfl) (by kernel_rfl) (by kernel_rfl) (fun _ _ _ h => h) (Or.inl ⟨by rfl, ?_⟩) ?_
                rotate_left
                · intro w
                  go_simp
                  try with_reducible rfl
                simp only [List.getElem_toArray, List.getElem_cons_succ, List.getElem_cons_zero, Act.put, List.setIfInBounds_toArray, List.set_cons_zero, List.set_cons_succ]
                refine wpAny_take (i := 10) (v := ?_) rfl (by kernel_rfl) (by kernel_rfl) (by kernel_rfl) (fun _ _ _ h => h) (Or.inl ⟨by rfl, ?_⟩) ?_
                rotate_left
                · intro w
                  go_simp
                  try with_reducible rfl
                simp only [List.getElem_toArray, List.getElem_cons_succ, List.getElem_cons_zero, Act.put, List.setIfInBounds_toArray, List.set_cons_zero, List.set_cons_succ]
                refine wpAny_take (i := 11) (v := ?_) rfl (by kernel_rfl) (by kernel_rfl) (by kernel_rfl) (fun _ _ _ h => h) (Or.inl ⟨by rfl, ?_⟩) ?_
                rotate_left
                · intro w
                  go_simp
                  try with_reducible rfl
                simp only [List.getElem_toArray, List.getElem_cons_succ, List.getElem_cons_zero, Act.put, List.setIfInBounds_toArray, List.set_cons_zero, List.set_cons_succ]
                refine wpAny_take (i := 12) (v := ?_) rfl (by kernel_rfl) (by kernel_rfl) (by kernel_rfl) (fun _ _ _ h => h) (Or.inl ⟨by rfl, ?_⟩) ?_
                rotate_left
                · intro w
                  go_simp
                  try with_reducible rfl
                simp only [List.getElem_toArray, List.getElem_cons_succ, List.getElem_cons_zero, Act.put, List.setIfInBounds_toArray, List.set_cons_zero, List.set_cons_succ]
                refine wpAny_take (i := 15) (v := ?_) rfl (by kernel_rfl) (by kernel_rfl) (by kernel_rfl) (fun _ _ _ h => h) (Or.inl ⟨by rfl, ?_⟩) ?_
                rotate_left
                · intro w
                  go_simp
                  try with_reducible rfl
                simp only [List.getElem_toArray, List.getElem_cons_succ, List.getElem_cons_zero, Act.put, List.setIfInBounds_toArray, List.set_cons_zero, List.set_cons_succ]
                refine wpAny_take (i := 16) (v := ?_) rfl (by kernel_rfl) (by kernel_rfl) (by kernel_rfl) (fun _ _ _ h => h) (Or.inl ⟨by rfl, ?_⟩) ?_
                rotate_left
                · intro w
                  go_simp
                  try with_reducible rfl
                simp only [List.getElem_toArray, List.getElem_cons_succ, List.getElem_cons_zero, Act.put, List.setIfInBounds_toArray, List.set_cons_zero, List.set_cons_succ]
                refine wpAny_take (i := 17) (v := ?_) rfl (by kernel_rfl) (by kernel_rfl) (by kernel_rfl) (fun _ _ _ h => h) (Or.inl ⟨by rfl, ?_⟩) ?_
                rotate_left
                · intro w
                  go_simp
                  try with_reducible rfl
                simp only [List.getElem_toArray, List.getElem_cons_succ, List.getElem_cons_zero, Act.put, List.setIfInBounds_toArray, List.set_cons_zero, List.set_cons_succ]
                refine wpAny_ready (rs := [13]) (by kernel_rfl) (by simp) ?_
                refine AllReady.cons rfl (fun K hK => ?_) ?_
                · go_simp
                  go_wp2_with (go_at_call 32; with_reducible refine T7.mono ?_; rintro e w7 ⟨a7, c7, rfl, hS7, hd7, sv7⟩; have k7 := conv sv7)
                  try simp only [List.getElem_toArray, List.getElem_cons_succ, List.getElem_cons_zero, Act.put, List.setIfInBounds_toArray, List.set_cons_zero, List.set_cons_succ]
                  refine wpAny_ready (rs := [14, 18]) (by kernel_rfl) (by simp) ?_
                  refine AllReady.cons rfl (fun K hK => ?_) ?_
                  · go_simp
                    refine hK _ _ ?_
                    clear hK K
                    try simp only [List.getElem_toArray, List.getElem_cons_succ, List.getElem_cons_zero, Act.put, List.setIfInBounds_toArray, List.set_cons_zero, List.set_cons_succ]
                    refine wpAny_ready (rs := [18]) (by kernel_rfl) (by simp) ?_
                    refine AllReady.cons rfl (fun K hK => ?_) ?_
                    · go_simp
                      go_wp2_with (go_at_call 24; with_reducible refine (T24 _).mono ?_; rintro e w' ⟨rfl, rfl⟩)
                      try simp only [List.getElem_toArray, List.getElem_cons_succ, List.getElem_cons_zero, Act.put, List.setIfInBounds_toArray, List.set_cons_zero, List.set_cons_succ]
                      refine wpAny_ready (rs := [19]) (by kernel_rfl) (by simp) ?_
                      refine AllReady.cons rfl (fun K hK => ?_) ?_
                      · refine step_appg (by first | rfl | kernel_rfl) _ _ ei22 rfl hS7.s.own (hy2.mods hS7.s.mods (fun _ _ f => f)) rfl rfl (bv_one _) hB3 hB4 ?_; intro a8 c8 w8 hA; have T8 := T26b hS7 hA; have sv7b := sv7.mods hA.mods hd7; have k7b := conv sv7b
                        refine hK _ _ ?_
                        clear hK K
                        try simp only [List.getElem_toArray, List.getElem_cons_succ, List.getElem_cons_zero, Act.put, List.setIfInBounds_toArray, List.set_cons_zero, List.set_cons_succ]
                        refine wpAny_ready (rs := [20]) (by kernel_rfl) (by simp) ?_
                        refine AllReady.cons rfl (fun K hK => ?_) ?_
                        · go_simp
                          go_wp2_with (go_at_call 26; with_reducible refine T8.mono ?_; rintro e w9 ⟨a9, c9, rfl, hM89, hM9, k9⟩; have k7c := conv (sv7b.mods hM89 (fun _ _ f => f)))
                          try simp only [List.getElem_toArray, List.getElem_cons_succ, List.getElem_cons_zero, Act.put, List.setIfInBounds_toArray, List.set_cons_zero, List.set_cons_succ]
                          refine wpAny_ready (rs := [21]) (by kernel_rfl) (by simp) ?_
                          refine AllReady.cons rfl (fun K hK => ?_) ?_
                          · go_simp
                            refine hK _ _ ?_
                            clear hK K
                            try simp only [List.getElem_toArray, List.getElem_cons_succ, List.getElem_cons_zero, Act.put, List.setIfInBounds_toArray, List.set_cons_zero, List.set_cons_succ]
                            refine wpAny_take (i := 22) (v := ?_) rfl (by kernel_rfl) (by kernel_rfl) (by kernel_rfl) (fun _ _ _ h => h) (Or.inl ⟨by rfl, ?_⟩) ?_
                            rotate_left
                            · intro w
                              go_simp
                              try with_reducible rfl
                            simp only [List.getElem_toArray, List.getElem_cons_succ, List.getElem_cons_zero, Act.put, List.setIfInBounds_toArray, List.set_cons_zero, List.set_cons_succ]
                            refine wpAny_take (i := 23) (v := ?_) rfl (by kernel_rfl) (by kernel_rfl) (by kernel_rfl) (fun _ _ _ h => h) (Or.inl ⟨by rfl, ?_⟩) ?_
                            rotate_left
                            · intro w
                              go_simp
                              try with_reducible rfl
                            simp only [List.getElem_toArray, List.getElem_cons_succ, List.getElem_cons_zero, Act.put, List.setIfInBounds_toArray, List.set_cons_zero, List.set_cons_succ]
                            refine wpAny_take (i := 24) (v := ?_) rfl (by kernel_rfl) (by kernel_rfl) (by kernel_rfl) (fun _ _ _ h => h) (Or.inl ⟨by rfl, ?_⟩) ?_
                            rotate_left
                            · intro w
                              go_simp
                              try with_reducible rfl
                            simp only [List.getElem_toArray, List.getElem_cons_succ, List.getElem_cons_zero, Act.put, List.setIfInBounds_toArray, List.set_cons_zero, List.set_cons_succ]
                            refine wpAny_done (by kernel_rfl) ?_ _
                            go_wp2_with fail
                            go_ret
                            exact ⟨rfl, hM9⟩
                          exact AllReady.nil
                        exact AllReady.nil
                      exact AllReady.nil
                    exact AllReady.nil
                  refine AllReady.cons rfl (fun K hK => ?_) ?_
                  · go_simp
                    go_wp2_with (go_at_call 24; with_reducible refine (T24 _).mono ?_; rintro e w' ⟨rfl, rfl⟩)
                    try simp only [List.getElem_toArray, List.getElem_cons_succ, List.getElem_cons_zero, Act.put, List.setIfInBounds_toArray, List.set_cons_zero, List.set_cons_succ]
                    refine wpAny_ready (rs := [14, 19]) (by kernel_rfl) (by simp) ?_
                    refine AllReady.cons rfl (fun K hK => ?_) ?_
                    · go_simp
                      refine hK _ _ ?_
                      clear hK K
                      try simp only [List.getElem_toArray, List.getElem_cons_succ, List.getElem_cons_zero, Act.put, List.setIfInBounds_toArray, List.set_cons_zero, List.set_cons_succ]
                      refine wpAny_ready (rs := [19]) (by kernel_rfl) (by simp) ?_
                      refine AllReady.cons rfl (fun K hK => ?_) ?_
                      · refine step_appg (by first | rfl | kernel_rfl) _ _ ei22 rfl hS7.s.own (hy2.mods hS7.s.mods (fun _ _ f => f)) rfl rfl (bv_one _) hB3 hB4 ?_; intro a8 c8 w8 hA; have T8 := T26b hS7 hA; have sv7b := sv7.mods hA.mods hd7; have k7b := conv sv7b
                        refine hK _ _ ?_
                        clear hK K
                        try simp only [List.getElem_toArray, List.getElem_cons_succ, List.getElem_cons_zero, Act.put, List.setIfInBounds_toArray, List.set_cons_zero, List.set_cons_succ]
                        refine wpAny_ready (rs := [20]) (by kernel_rfl) (by simp) ?_
                        refine AllReady.cons rfl (fun K hK => ?_) ?_
                        · go_simp
                          go_wp2_with (go_at_call 26; with_reducible refine T8.mono ?_; rintro e w9 ⟨a9, c9, rfl, hM89, hM9, k9⟩; have k7c := conv (sv7b.mods hM89 (fun _ _ f => f)))
                          try simp only [List.getElem_toArray, List.getElem_cons_succ, List.getElem_cons_zero, Act.put, List.setIfInBounds_toArray, List.set_cons_zero, List.set_cons_succ]
                          refine wpAny_ready (rs := [21]) (by kernel_rfl) (by simp) ?_
                          refine AllReady.cons rfl (fun K hK => ?_) ?_
                          · go_simp
                            refine hK _ _ ?_
                            clear hK K
                            try simp only [List.getElem_toArray, List.getElem_cons_succ, List.getElem_cons_zero, Act.put, List.setIfInBounds_toArray, List.set_cons_zero, List.set_cons_succ]
                            refine wpAny_take (i := 22) (v := ?_) rfl (by kernel_rfl) (by kernel_rfl) (by kernel_rfl) (fun _ _ _ h => h) (Or.inl ⟨by rfl, ?_⟩) ?_
                            rotate_left
                            · intro w
                              go_simp
                              try with_reducible rfl
                            simp only [List.getElem_toArray, List.getElem_cons_succ, List.getElem_cons_zero, Act.put, List.setIfInBounds_toArray, List.set_cons_zero, List.set_cons_succ]
                            refine wpAny_take (i := 23) (v := ?_) rfl (by kernel_rfl) (by kernel_rfl) (by kernel_rfl) (fun _ _ _ h => h) (Or.inl ⟨by rfl, ?_⟩) ?_
                            rotate_left
                            · intro w
                              go_simp
                              try with_reducible rfl
                            simp only [List.getElem_toArray, List.getElem_cons_succ, List.getElem_cons_zero, Act.put, List.setIfInBounds_toArray, List.set_cons_zero, List.set_cons_succ]
                            refine wpAny_take (i := 24) (v := ?_) rfl (by kernel_rfl) (by kernel_rfl) (by kernel_rfl) (fun _ _ _ h => h) (Or.inl ⟨by rfl, ?_⟩) ?_
                            rotate_left
                            · intro w
                              go_simp
                              try with_reducible rfl
                            simp only [List.getElem_toArray, List.getElem_cons_succ, List.getElem_cons_zero, Act.put, List.setIfInBounds_toArray, List.set_cons_zero, List.set_cons_succ]
                            refine wpAny_done (by kernel_rfl) ?_ _
                            go_wp2_with fail
                            go_ret
                            exact ⟨rfl, hM9⟩
                          exact AllReady.nil
                        exact AllReady.nil
                      exact AllReady.nil
                    refine AllReady.cons rfl (fun K hK => ?_) ?_
                    · refine step_appg (by first | rfl | kernel_rfl) _ _ ei22 rfl hS7.s.own (hy2.mods hS7.s.mods (fun _ _ f => f)) rfl rfl (bv_one _) hB3 hB4 ?_; intro a8 c8 w8 hA; have T8 := T26b hS7 hA; have sv7b := sv7.mods hA.mods hd7; have k7b := conv sv7b
                      refine hK _ _ ?_
                      clear hK K
                      try simp only [List.getElem_toArray, List.getElem_cons_succ, List.getElem_cons_zero, Act.put, List.setIfInBounds_toArray, List.set_cons_zero, List.set_cons_succ]
                      refine wpAny_ready (rs := [14, 20]) (by kernel_rfl) (by simp) ?_
                      refine AllReady.cons rfl (fun K hK => ?_) ?_
                      · go_simp
                        refine hK _ _ ?_
                        clear hK K
                        try simp only [List.getElem_toArray, List.getElem_cons_succ, List.getElem_cons_zero, Act.put, List.setIfInBounds_toArray, List.set_cons_zero, List.set_cons_succ]
                        refine wpAny_ready (rs := [20]) (by kernel_rfl) (by simp) ?_
                        refine AllReady.cons rfl (fun K hK => ?_) ?_
                        · go_simp
                          go_wp2_with (go_at_call 26; with_reducible refine T8.mono ?_; rintro e w9 ⟨a9, c9, rfl, hM89, hM9, k9⟩; have k7c := conv (sv7b.mods hM89 (fun _ _ f => f)))
                          try simp only [List.getElem_toArray, List.getElem_cons_succ, List.getElem_cons_zero, Act.put, List.setIfInBounds_toArray, List.set_cons_zero, List.set_cons_succ]
                          refine wpAny_ready (rs := [21]) (by kernel_rfl) (by simp) ?_
                          refine AllReady.cons rfl (fun K hK => ?_) ?_
                          · go_simp
                            refine hK _ _ ?_
                            clear hK K
                            try simp only [List.getElem_toArray, List.getElem_cons_succ, List.getElem_cons_zero, Act.put, List.setIfInBounds_toArray, List.set_cons_zero, List.set_cons_succ]
                            refine wpAny_take (i := 22) (v := ?_) rfl (by kernel_rfl) (by kernel_rfl) (by kernel_rfl) (fun _ _ _ h => h) (Or.inl ⟨by rfl, ?_⟩) ?_
                            rotate_left
                            · intro w
                              go_simp
                              try with_reducible rfl
                            simp only [List.getElem_toArray, List.getElem_cons_succ, List.getElem_cons_zero, Act.put, List.setIfInBounds_toArray, List.set_cons_zero, List.set_cons_succ]
                            refine wpAny_take (i := 23) (v := ?_) rfl (by kernel_rfl) (by kernel_rfl) (by kernel_rfl) (fun _ _ _ h => h) (Or.inl ⟨by rfl, ?_⟩) ?_
                            rotate_left
                            · intro w
                              go_simp
                              try with_reducible rfl
                            simp only [List.getElem_toArray, List.getElem_cons_succ, List.getElem_cons_zero, Act.put, List.setIfInBounds_toArray, List.set_cons_zero, List.set_cons_succ]
                            refine wpAny_take (i := 24) (v := ?_) rfl (by kernel_rfl) (by kernel_rfl) (by kernel_rfl) (fun _ _ _ h => h) (Or.inl ⟨by rfl, ?_⟩) ?_
                            rotate_left
                            · intro w
                              go_simp
                              try with_reducible rfl
                            simp only [List.getElem_toArray, List.getElem_cons_succ, List.getElem_cons_zero, Act.put, List.setIfInBounds_toArray, List.set_cons_zero, List.set_cons_succ]
                            refine wpAny_done (by kernel_rfl) ?_ _
                            go_wp2_with fail
                            go_ret
                            exact ⟨rfl, hM9⟩
                          exact AllReady.nil
                        exact AllReady.nil
                      refine AllReady.cons rfl (fun K hK => ?_) ?_
                      · go_simp
                        go_wp2_with (go_at_call 26; with_reducible refine T8.mono ?_; rintro e w9 ⟨a9, c9, rfl, hM89, hM9, k9⟩; have k7c := conv (sv7b.mods hM89 (fun _ _ f => f)))
                        try simp only [List.getElem_toArray, List.getElem_cons_succ, List.getElem_cons_zero, Act.put, List.setIfInBounds_toArray, List.set_cons_zero, List.set_cons_succ]
                        refine wpAny_ready (rs := [14, 21]) (by kernel_rfl) (by simp) ?_
                        refine AllReady.cons rfl (fun K hK => ?_) ?_
                        · go_simp
                          refine hK _ _ ?_
                          clear hK K
                          try simp only [List.getElem_toArray, List.getElem_cons_succ, List.getElem_cons_zero, Act.put, List.setIfInBounds_toArray, List.set_cons_zero, List.set_cons_succ]
                          refine wpAny_ready (rs := [21]) (by kernel_rfl) (by simp) ?_
                          refine AllReady.cons rfl (fun K hK => ?_) ?_
                          · go_simp
                            refine hK _ _ ?_
                            clear hK K
                            try simp only [List.getElem_toArray, List.getElem_cons_succ, List.getElem_cons_zero, Act.put, List.setIfInBounds_toArray, List.set_cons_zero, List.set_cons_succ]
                            refine wpAny_take (i := 22) (v := ?_) rfl (by kernel_rfl) (by kernel_rfl) (by kernel_rfl) (fun _ _ _ h => h) (Or.inl ⟨by rfl, ?_⟩) ?_
                            rotate_left
                            · intro w
                              go_simp
                              try with_reducible rfl
                            simp only [List.getElem_toArray, List.getElem_cons_succ, List.getElem_cons_zero, Act.put, List.setIfInBounds_toArray, List.set_cons_zero, List.set_cons_succ]
                            refine wpAny_take (i := 23) (v := ?_) rfl (by kernel_rfl) (by kernel_rfl) (by kernel_rfl) (fun _ _ _ h => h) (Or.inl ⟨by rfl, ?_⟩) ?_
                            rotate_left
                            · intro w
                              go_simp
                              try with_reducible rfl
                            simp only [List.getElem_toArray, List.getElem_cons_succ, List.getElem_cons_zero, Act.put, List.setIfInBounds_toArray, List.set_cons_zero, List.set_cons_succ]
                            refine wpAny_take (i := 24) (v := ?_) rfl (by kernel_rfl) (by kernel_rfl) (by kernel_rfl) (fun _ _ _ h => h) (Or.inl ⟨by rfl, ?_⟩) ?_
                            rotate_left
                            · intro w
                              go_simp
                              try with_reducible rfl
                            simp only [List.getElem_toArray, List.getElem_cons_succ, List.getElem_cons_zero, Act.put, List.setIfInBounds_toArray, List.set_cons_zero, List.set_cons_succ]
                            refine wpAny_done (by kernel_rfl) ?_ _
                            go_wp2_with fail
                            go_ret
                            exact ⟨rfl, hM9⟩
                          exact AllReady.nil
                        refine AllReady.cons rfl (fun K hK => ?_) ?_
                        · go_simp
                          refine hK _ _ ?_
                          clear hK K
                          try simp only [List.getElem_toArray, List.getElem_cons_succ, List.getElem_cons_zero, Act.put, List.setIfInBounds_toArray, List.set_cons_zero, List.set_cons_succ]
                          refine wpAny_ready (rs := [14]) (by kernel_rfl) (by simp) ?_
                          refine AllReady.cons rfl (fun K hK => ?_) ?_
                          · go_simp
                            refine hK _ _ ?_
                            clear hK K
                            try simp only [List.getElem_toArray, List.getElem_cons_succ, List.getElem_cons_zero, Act.put, List.setIfInBounds_toArray, List.set_cons_zero, List.set_cons_succ]
                            refine wpAny_take (i := 22) (v := ?_) rfl (by kernel_rfl) (by kernel_rfl) (by kernel_rfl) (fun _ _ _ h => h) (Or.inl ⟨by rfl, ?_⟩) ?_
                            rotate_left
                            · intro w
                              go_simp
                              try with_reducible rfl
                            simp only [List.getElem_toArray, List.getElem_cons_succ, List.getElem_cons_zero, Act.put, List.setIfInBounds_toArray, List.set_cons_zero, List.set_cons_succ]
                            refine wpAny_take (i := 23) (v := ?_) rfl (by kernel_rfl) (by kernel_rfl) (by kernel_rfl) (fun _ _ _ h => h) (Or.inl ⟨by rfl, ?_⟩) ?_
                            rotate_left
                            · intro w
                              go_simp
                              try with_reducible rfl
                            simp only [List.getElem_toArray, List.getElem_cons_succ, List.getElem_cons_zero, Act.put, List.setIfInBounds_toArray, List.set_cons_zero, List.set_cons_succ]
                            refine wpAny_take (i := 24) (v := ?_) rfl (by kernel_rfl) (by kernel_rfl) (by kernel_rfl) (fun _ _ _ h => h) (Or.inl ⟨by rfl, ?_⟩) ?_
                            rotate_left
                            · intro w
                              go_simp
                              try with_reducible rfl
                            simp only [List.getElem_toArray, List.getElem_cons_succ, List.getElem_cons_zero, Act.put, List.setIfInBounds_toArray, List.set_cons_zero, List.set_cons_succ]
                            refine wpAny_done (by kernel_rfl) ?_ _
                            go_wp2_with fail
                            go_ret
                            exact ⟨rfl, hM9⟩
                          exact AllReady.nil
                        exact AllReady.nil
                      exact AllReady.nil
                    exact AllReady.nil
                  exact AllReady.nil
                exact AllReady.nil
              exact AllReady.nil
            refine AllReady.cons rfl (fun K hK => ?_) ?_
            · go_simp
              refine hK _ _ ?_
              clear hK K
              try simp only [List.getElem_toArray, List.getElem_cons_succ, List.getElem_cons_zero, Act.put, List.setIfInBounds_toArray, List.set_cons_zero, List.set_cons_succ]
              refine wpAny_ready (rs := [4]) (by kernel_rfl) (by simp) ?_
              refine AllReady.cons rfl (fun K hK => ?_) ?_
              · go_simp
                refine hK _ _ ?_
                clear hK K
                try simp only [List.getElem_toArray, List.getElem_cons_succ, List.getElem_cons_zero, Act.put, List.setIfInBounds_toArray, List.set_cons_zero, List.set_cons_succ]
                refine wpAny_take (i := 9) (v := ?_) rfl (by kernel_rfl) (by kernel_rfl) (by kernel_rfl) (fun _ _ _ h => h) (Or.inl ⟨by rfl, ?_⟩) ?_
                rotate_left
                · intro w
                  go_simp
                  try with_reducible rfl
                simp only [List.getElem_toArray, List.getElem_cons_succ, List.getElem_cons_zero, Act.put, List.setIfInBounds_toArray, List.set_cons_zero, List.set_cons_succ]
                refine wpAny_take (i := 10) (v := ?_) rfl (by kernel_rfl) (by kernel_rfl) (by kernel_rfl) (fun _ _ _ h => h) (Or.inl ⟨by rfl, ?_⟩) ?_
                rotate_left
                · intro w
                  go_simp
                  try with_reducible rfl
                simp only [List.getElem_toArray, List.getElem_cons_succ, List.getElem_cons_zero, Act.put, List.setIfInBounds_toArray, List.set_cons_zero, List.set_cons_succ]
                refine wpAny_take (i := 11) (v := ?_) rfl (by kernel_rfl) (by kernel_rfl) (by kernel_rfl) (fun _ _ _ h => h) (Or.inl ⟨by rfl, ?_⟩) ?_
                rotate_left
                · intro w
                  go_simp
                  try with_reducible rfl
                simp only [List.getElem_toArray, List.getElem_cons_succ, List.getElem_cons_zero, Act.put, List.setIfInBounds_toArray, List.set_cons_zero, List.set_cons_succ]
                refine wpAny_take (i := 12) (v := ?_) rfl (by kernel_rfl) (by kernel_rfl) (by kernel_rfl) (fun _ _ _ h => h) (Or.inl ⟨by rfl, ?_⟩) ?_
                rotate_left
                · intro w
                  go_simp
                  try with_reducible rfl
                simp only [List.getElem_toArray, List.getElem_cons_succ, List.getElem_cons_zero, Act.put, List.setIfInBounds_toArray, List.set_cons_zero, List.set_cons_succ]
                refine wpAny_take (i := 15) (v := ?_) rfl (by kernel_rfl) (by kernel_rfl) (by kernel_rfl) (fun _ _ _ h => h) (Or.inl ⟨by rfl, ?_⟩) ?_
                rotate_left
                · intro w
                  go_simp
                  try with_reducible rfl
                simp only [List.getElem_toArray, List.getElem_cons_succ, List.getElem_cons_zero, Act.put, List.setIfInBounds_toArray, List.set_cons_zero, List.set_cons_succ]
                refine wpAny_take (i := 16) (v := ?_) rfl (by kernel_rfl) (by kernel_rfl) (by kernel_rfl) (fun _ _ _ h => h) (Or.inl ⟨by rfl, ?_⟩) ?_
                rotate_left
                · intro w
                  go_simp
                  try with_reducible rfl
                simp only [List.getElem_toArray, List.getElem_cons_succ, List.getElem_cons_zero, Act.put, List.setIfInBounds_toArray, List.set_cons_zero, List.set_cons_succ]
                refine wpAny_take (i := 17) (v := ?_) rfl (by kernel_rfl) (by kernel_rfl) (by kernel_rfl) (fun _ _ _ h => h) (Or.inl ⟨by rfl, ?_⟩) ?_
                rotate_left
                · intro w
                  go_simp
                  try with_reducible rfl
                simp only [List.getElem_toArray, List.getElem_cons_succ, List.getElem_cons_zero, Act.put, List.setIfInBounds_toArray, List.set_cons_zero, List.set_cons_succ]
                refine wpAny_ready (rs := [13]) (by kernel_rfl) (by simp) ?_
                refine AllReady.cons rfl (fun K hK => ?_) ?_
                · go_simp
                  go_wp2_with (go_at_call 32; with_reducible refine T7.mono ?_; rintro e w7 ⟨a7, c7, rfl, hS7, hd7, sv7⟩; have k7 := conv sv7)
                  try simp only [List.getElem_toArray, List.getElem_cons_succ, List.getElem_cons_zero, Act.put, List.setIfInBounds_toArray, List.set_cons_zero, List.set_cons_succ]
                  refine wpAny_ready (rs := [14, 18]) (by kernel_rfl) (by simp) ?_
                  refine AllReady.cons rfl (fun K hK => ?_) ?_
                  · go_simp
                    refine hK _ _ ?_
                    clear hK K
                    try simp only [List.getElem_toArray, List.getElem_cons_succ, List.getElem_cons_zero, Act.put, List.setIfInBounds_toArray, List.set_cons_zero, List.set_cons_succ]
                    refine wpAny_ready (rs := [18]) (by kernel_rfl) (by simp) ?_
                    refine AllReady.cons rfl (fun K hK => ?_) ?_
                    · go_simp
                      go_wp2_with (go_at_call 24; with_reducible refine (T24 _).mono ?_; rintro e w' ⟨rfl, rfl⟩)
                      try simp only [List.getElem_toArray, List.getElem_cons_succ, List.getElem_cons_zero, Act.put, List.setIfInBounds_toArray, List.set_cons_zero, List.set_cons_succ]
                      refine wpAny_ready (rs := [19]) (by kernel_rfl) (by simp) ?_
                      refine AllReady.cons rfl (fun K hK => ?_) ?_
                      · refine step_appg (by first | rfl | kernel_rfl) _ _ ei22 rfl hS7.s.own (hy2.mods hS7.s.mods (fun _ _ f => f)) rfl rfl (bv_one _) hB3 hB4 ?_; intro a8 c8 w8 hA; have T8 := T26b hS7 hA; have sv7b := sv7.mods hA.mods hd7; have k7b := conv sv7b
                        refine hK _ _ ?_
                        clear hK K
                        try simp only [List.getElem_toArray, List.getElem_cons_succ, List.getElem_cons_zero, Act.put, List.setIfInBounds_toArray, List.set_cons_zero, List.set_cons_succ]
                        refine wpAny_ready (rs := [20]) (by kernel_rfl) (by simp) ?_
                        refine AllReady.cons rfl (fun K hK => ?_) ?_
                        · go_simp
                          go_wp2_with (go_at_call 26; with_reducible refine T8.mono ?_; rintro e w9 ⟨a9, c9, rfl, hM89, hM9, k9⟩; have k7c := conv (sv7b.mods hM89 (fun _ _ f => f)))
                          try simp only [List.getElem_toArray, List.getElem_cons_succ, List.getElem_cons_zero, Act.put, List.setIfInBounds_toArray, List.set_cons_zero, List.set_cons_succ]
                          refine wpAny_ready (rs := [21]) (by kernel_rfl) (by simp) ?_
                          refine AllReady.cons rfl (fun K hK => ?_) ?_
                          · go_simp
                            refine hK _ _ ?_
                            clear hK K
                            try simp only [List.getElem_toArray, List.getElem_cons_succ, List.getElem_cons_zero, Act.put, List.setIfInBounds_toArray, List.set_cons_zero, List.set_cons_succ]
                            refine wpAny_take (i := 22) (v := ?_) rfl (by kernel_rfl) (by kernel_rfl) (by kernel_rfl) (fun _ _ _ h => h) (Or.inl ⟨by rfl, ?_⟩) ?_
                            rotate_left
                            · intro w
                              go_simp
                              try with_reducible rfl
                            simp only [List.getElem_toArray, List.getElem_cons_succ, List.getElem_cons_zero, Act.put, List.setIfInBounds_toArray, List.set_cons_zero, List.set_cons_succ]
                            refine wpAny_take (i := 23) (v := ?_) rfl (by kernel_rfl) (by kernel_rfl) (by kernel_rfl) (fun _ _ _ h => h) (Or.inl ⟨by rfl, ?_⟩) ?_
                            rotate_left
                            · intro w
                              go_simp
                              try with_reducible rfl
                            simp only [List.getElem_toArray, List.getElem_cons_succ, List.getElem_cons_zero, Act.put, List.setIfInBounds_toArray, List.set_cons_zero, List.set_cons_succ]
                            refine wpAny_take (i := 24) (v := ?_) rfl (by kernel_rfl) (by kernel_rfl) (by kernel_rfl) (fun _ _ _ h => h) (Or.inl ⟨by rfl, ?_⟩) ?_
                            rotate_left
                            · intro w
                              go_simp
                              try with_reducible rfl
                            simp only [List.getElem_toArray, List.getElem_cons_succ, List.getElem_cons_zero, Act.put, List.setIfInBounds_toArray, List.set_cons_zero, List.set_cons_succ]
                            refine wpAny_done (by kernel_rfl) ?_ _
                            go_wp2_with fail
                            go_ret
                            exact ⟨rfl, hM9⟩
                          exact AllReady.nil
                        exact AllReady.nil
                      exact AllReady.nil
                    exact AllReady.nil
                  refine AllReady.cons rfl (fun K hK => ?_) ?_
                  · go_simp
                    go_wp2_with (go_at_call 24; with_reducible refine (T24 _).mono ?_; rintro e w' ⟨rfl, rfl⟩)
                    try simp only [List.getElem_toArray, List.getElem_cons_succ, List.getElem_cons_zero, Act.put, List.setIfInBounds_toArray, List.set_cons_zero, List.set_cons_succ]
                    refine wpAny_ready (rs := [14, 19]) (by kernel_rfl) (by simp) ?_
                    refine AllReady.cons rfl (fun K hK => ?_) ?_
                    · go_simp
                      refine hK _ _ ?_
                      clear hK K
                      try simp only [List.getElem_toArray, List.getElem_cons_succ, List.getElem_cons_zero, Act.put, List.setIfInBounds_toArray, List.set_cons_zero, List.set_cons_succ]
                      refine wpAny_ready (rs := [19]) (by kernel_rfl) (by simp) ?_
                      refine AllReady.cons rfl (fun K hK => ?_) ?_
                      · refine step_appg (by first | rfl | kernel_rfl) _ _ ei22 rfl hS7.s.own (hy2.mods hS7.s.mods (fun _ _ f => f)) rfl rfl (bv_one _) hB3 hB4 ?_; intro a8 c8 w8 hA; have T8 := T26b hS7 hA; have sv7b := sv7.mods hA.mods hd7; have k7b := conv sv7b
                        refine hK _ _ ?_
                        clear hK K
                        try simp only [List.getElem_toArray, List.getElem_cons_succ, List.getElem_cons_zero, Act.put, List.setIfInBounds_toArray, List.set_cons_zero, List.set_cons_succ]
                        refine wpAny_ready (rs := [20]) (by kernel_rfl) (by simp) ?_
                        refine AllReady.cons rfl (fun K hK => ?_) ?_
                        · go_simp
                          go_wp2_with (go_at_call 26; with_reducible refine T8.mono ?_; rintro e w9 ⟨a9, c9, rfl, hM89, hM9, k9⟩; have k7c := conv (sv7b.mods hM89 (fun _ _ f => f)))
                          try simp only [List.getElem_toArray, List.getElem_cons_succ, List.getElem_cons_zero, Act.put, List.setIfInBounds_toArray, List.set_cons_zero, List.set_cons_succ]
                          refine wpAny_ready (rs := [21]) (by kernel_rfl) (by simp) ?_
                          refine AllReady.cons rfl (fun K hK => ?_) ?_
                          · go_simp
                            refine hK _ _ ?_
                            clear hK K
                            try simp only [List.getElem_toArray, List.getElem_cons_succ, List.getElem_cons_zero, Act.put, List.setIfInBounds_toArray, List.set_cons_zero, List.set_cons_succ]
                            refine wpAny_take (i := 22) (v := ?_) rfl (by kernel_rfl) (by kernel_rfl) (by kernel_rfl) (fun _ _ _ h => h) (Or.inl ⟨by rfl, ?_⟩) ?_
                            rotate_left
                            · intro w
                              go_simp
                              try with_reducible rfl
                            simp only [List.getElem_toArray, List.getElem_cons_succ, List.getElem_cons_zero, Act.put, List.setIfInBounds_toArray, List.set_cons_zero, List.set_cons_succ]
                            refine wpAny_take (i := 23) (v := ?_) rfl (by kernel_rfl) (by kernel_rfl) (by kernel_rfl) (fun _ _ _ h => h) (Or.inl ⟨by rfl, ?_⟩) ?_
                            rotate_left
                            · intro w
                              go_simp
                              try with_reducible rfl
                            simp only [List.getElem_toArray, List.getElem_cons_succ, List.getElem_cons_zero, Act.put, List.setIfInBounds_toArray, List.set_cons_zero, List.set_cons_succ]
                            refine wpAny_take (i := 24) (v := ?_) rfl (by kernel_rfl) (by kernel_rfl) (by kernel_rfl) (fun _ _ _ h => h) (Or.inl ⟨by rfl, ?_⟩) ?_
                            rotate_left
                            · intro w
                              go_simp
                              try with_reducible rfl
                            simp only [List.getElem_toArray, List.getElem_cons_succ, List.getElem_cons_zero, Act.put, List.setIfInBounds_toArray, List.set_cons_zero, List.set_cons_succ]
                            refine wpAny_done (by kernel_rfl) ?_ _
                            go_wp2_with fail
                            go_ret
                            exact ⟨rfl, hM9⟩
                          exact AllReady.nil
                        exact AllReady.nil
                      exact AllReady.nil
                    refine AllReady.cons rfl (fun K hK => ?_) ?_
                    · refine step_appg (by first | rfl | kernel_rfl) _ _ ei22 rfl hS7.s.own (hy2.mods hS7.s.mods (fun _ _ f => f)) rfl rfl (bv_one _) hB3 hB4 ?_; intro a8 c8 w8 hA; have T8 := T26b hS7 hA; have sv7b := sv7.mods hA.mods hd7; have k7b := conv sv7b
                      refine hK _ _ ?_
                      clear hK K
                      try simp only [List.getElem_toArray, List.getElem_cons_succ, List.getElem_cons_zero, Act.put, List.setIfInBounds_toArray, List.set_cons_zero, List.set_cons_succ]
                      refine wpAny_ready (rs := [14, 20]) (by kernel_rfl) (by simp) ?_
                      refine AllReady.cons rfl (fun K hK => ?_) ?_
                      · go_simp
                        refine hK _ _ ?_
                        clear hK K
                        try simp only [List.getElem_toArray, List.getElem_cons_succ, List.getElem_cons_zero, Act.put, List.setIfInBounds_toArray, List.set_cons_zero, List.set_cons_succ]
                        refine wpAny_ready (rs := [20]) (by kernel_rfl) (by simp) ?_
                        refine AllReady.cons rfl (fun K hK => ?_) ?_
                        · go_simp
                          go_wp2_with (go_at_call 26; with_reducible refine T8.mono ?_; rintro e w9 ⟨a9, c9, rfl, hM89, hM9, k9⟩; have k7c := conv (sv7b.mods hM89 (fun _ _ f => f)))
                          try simp only [List.getElem_toArray, List.getElem_cons_succ, List.getElem_cons_zero, Act.put, List.setIfInBounds_toArray, List.set_cons_zero, List.set_cons_succ]
                          refine wpAny_ready (rs := [21]) (by kernel_rfl) (by simp) ?_
                          refine AllReady.cons rfl (fun K hK => ?_) ?_
                          · go_simp
                            refine hK _ _ ?_
                            clear hK K
                            try simp only [List.getElem_toArray, List.getElem_cons_succ, List.getElem_cons_zero, Act.put, List.setIfInBounds_toArray, List.set_cons_zero, List.set_cons_succ]
                            refine wpAny_take (i := 22) (v := ?_) rfl (by kernel_rfl) (by kernel_rfl) (by kernel_rfl) (fun _ _ _ h => h) (Or.inl ⟨by rfl, ?_⟩) ?_
                            rotate_left
                            · intro w
                              go_simp
                              try with_reducible rfl
                            simp only [List.getElem_toArray, List.getElem_cons_succ, List.getElem_cons_zero, Act.put, List.setIfInBounds_toArray, List.set_cons_zero, List.set_cons_succ]
                            refine wpAny_take (i := 23) (v := ?_) rfl (by kernel_rfl) (by kernel_rfl) (by kernel_rfl) (fun _ _ _ h => h) (Or.inl ⟨by rfl, ?_⟩) ?_
                            rotate_left
                            · intro w
                              go_simp
                              try with_reducible rfl
                            simp only [List.getElem_toArray, List.getElem_cons_succ, List.getElem_cons_zero, Act.put, List.setIfInBounds_toArray, List.set_cons_zero, List.set_cons_succ]
                            refine wpAny_take (i := 24) (v := ?_) rfl (by kernel_rfl) (by kernel_rfl) (by kernel_rfl) (fun _ _ _ h => h) (Or.inl ⟨by rfl, ?_⟩) ?_
                            rotate_left
                            · intro w
                              go_simp
                              try with_reducible rfl
                            simp only [List.getElem_toArray, List.getElem_cons_succ, List.getElem_cons_zero, Act.put, List.setIfInBounds_toArray, List.set_cons_zero, List.set_cons_succ]
                            refine wpAny_done (by kernel_rfl) ?_ _
                            go_wp2_with fail
                            go_ret
                            exact ⟨rfl, hM9⟩
                          exact AllReady.nil
                        exact AllReady.nil
                      refine AllReady.cons rfl (fun K hK => ?_) ?_
                      · go_simp
                        go_wp2_with (go_at_call 26; with_reducible refine T8.mono ?_; rintro e w9 ⟨a9, c9, rfl, hM89, hM9, k9⟩; have k7c := conv (sv7b.mods hM89 (fun _ _ f => f)))
                        try simp only [List.getElem_toArray, List.getElem_cons_succ, List.getElem_cons_zero, Act.put, List.setIfInBounds_toArray, List.set_cons_zero, List.set_cons_succ]
                        refine wpAny_ready (rs := [14, 21]) (by kernel_rfl) (by simp) ?_
                        refine AllReady.cons rfl (fun K hK => ?_) ?_
                        · go_simp
                          refine hK _ _ ?_
                          clear hK K
                          try simp only [List.getElem_toArray, List.getElem_cons_succ, List.getElem_cons_zero, Act.put, List.setIfInBounds_toArray, List.set_cons_zero, List.set_cons_succ]
                          refine wpAny_ready (rs := [21]) (by kernel_rfl) (by simp) ?_
                          refine AllReady.cons rfl (fun K hK => ?_) ?_
                          · go_simp
                            refine hK _ _ ?_
                            clear hK K
                            try simp only [List.getElem_toArray, List.getElem_cons_succ, List.getElem_cons_zero, Act.put, List.setIfInBounds_toArray, List.set_cons_zero, List.set_cons_succ]
                            refine wpAny_take (i := 22) (v := ?_) rfl (by kernel_rfl) (by kernel_rfl) (by kernel_rfl) (fun _ _ _ h => h) (Or.inl ⟨by rfl, ?_⟩) ?_
                            rotate_left
                            · intro w
                              go_simp
                              try with_reducible rfl
                            simp only [List.getElem_toArray, List.getElem_cons_succ, List.getElem_cons_zero, Act.put, List.setIfInBounds_toArray, List.set_cons_zero, List.set_cons_succ]
                            refine wpAny_take (i := 23) (v := ?_) rfl (by kernel_rfl) (by kernel_rfl) (by kernel_rfl) (fun _ _ _ h => h) (Or.inl ⟨by rfl, ?_⟩) ?_
                            rotate_left
                            · intro w
                              go_simp
                              try with_reducible rfl
                            simp only [List.getElem_toArray, List.getElem_cons_succ, List.getElem_cons_zero, Act.put, List.setIfInBounds_toArray, List.set_cons_zero, List.set_cons_succ]
                            refine wpAny_take (i := 24) (v := ?_) rfl (by kernel_rfl) (by kernel_rfl) (by kernel_rfl) (fun _ _ _ h => h) (Or.inl ⟨by rfl, ?_⟩) ?_
                            rotate_left
                            · intro w
                              go_simp
                              try with_reducible rfl
                            simp only [List.getElem_toArray, List.getElem_cons_succ, List.getElem_cons_zero, Act.put, List.setIfInBounds_toArray, List.set_cons_zero, List.set_cons_succ]
                            refine wpAny_done (by kernel_rfl) ?_ _
                            go_wp2_with fail
                            go_ret
                            exact ⟨rfl, hM9⟩
                          exact AllReady.nil
                        refine AllReady.cons rfl (fun K hK => ?_) ?_
                        · go_simp
                          refine hK _ _ ?_
                          clear hK K
                          try simp only [List.getElem_toArray, List.getElem_cons_succ, List.getElem_cons_zero, Act.put, List.setIfInBounds_toArray, List.set_cons_zero, List.set_cons_succ]
                          refine wpAny_ready (rs := [14]) (by kernel_rfl) (by simp) ?_
                          refine AllReady.cons rfl (fun K hK => ?_) ?_
                          · go_simp
                            refine hK _ _ ?_
                            clear hK K
                            try simp only [List.getElem_toArray, List.getElem_cons_succ, List.getElem_cons_zero, Act.put, List.setIfInBounds_toArray, List.set_cons_zero, List.set_cons_succ]
                            refine wpAny_take (i := 22) (v := ?_) rfl (by kernel_rfl) (by kernel_rfl) (by kernel_rfl) (fun _ _ _ h => h) (Or.inl ⟨by rfl, ?_⟩) ?_
                            rotate_left
                            · intro w
                              go_simp
                              try with_reducible rfl
                            simp only [List.getElem_toArray, List.getElem_cons_succ, List.getElem_cons_zero, Act.put, List.setIfInBounds_toArray, List.set_cons_zero, List.set_cons_succ]
                            refine wpAny_take (i := 23) (v := ?_) rfl (by kernel_rfl) (by kernel_rfl) (by kernel_rfl) (fun _ _ _ h => h) (Or.inl ⟨by rfl, ?_⟩) ?_
                            rotate_left
                            · intro w
                              go_simp
                              try with_reducible rfl
                            simp only [List.getElem_toArray, List.getElem_cons_succ, List.getElem_cons_zero, Act.put, List.setIfInBounds_toArray, List.set_cons_zero, List.set_cons_succ]
                            refine wpAny_take (i := 24) (v := ?_) rfl (by kernel_rfl) (by kernel_rfl) (by kernel_rfl) (fun _ _ _ h => h) (Or.inl ⟨by rfl, ?_⟩) ?_
                            rotate_left
                            · intro w
                              go_simp
                              try with_reducible rfl
                            simp only [List.getElem_toArray, List.getElem_cons_succ, List.getElem_cons_zero, Act.put, List.setIfInBounds_toArray, List.set_cons_zero, List.set_cons_succ]
                            refine wpAny_done (by kernel_rfl) ?_ _
                            go_wp2_with fail
                            go_ret
                            exact ⟨rfl, hM9⟩
                          exact AllReady.nil
                        exact AllReady.nil
                      exact AllReady.nil
                    exact AllReady.nil
                  exact AllReady.nil
                exact AllReady.nil
              exact AllReady.nil
            exact AllReady.nil
          exact AllReady.nil
        exact AllReady.nil

      · have i1 : ¬ (t : Int) < n := by omega
        clear hlt
        have hbw : b < wr.heap.size := hS.hn.ho.lt
        have T33 := f33 wr b ah k m hS.hn.ho
        have T24 : ∀ w1, Calls Tryd.prog 24 #[.slice y my cy, .int .i64 50] w1 fun e w' => e = .returned (.slice y (min my 50) cy) ∧ w1 = w' := fun w1 => f24w w1 y my cy hy.le 50 50 rfl (by omega)
        have hy2 := sv_min hy 50
        have h50 : min my 50 ≤ 50 := Nat.min_le_right _ _
        have hqB := hyB.take 50
        obtain ⟨q, hq⟩ : ∃ q, Eqn q (min my 50) := ⟨_, ⟨rfl⟩⟩
        rw [← hq.out] at hy2 T24 h50
        obtain ⟨lq, hlq⟩ : ∃ lq, Eqn lq (lm.take 50) := ⟨_, ⟨rfl⟩⟩
        rw [← hlq.out] at hy2 hqB
        have hqq : lq.length = q := by have := hy2.len; simpa [bv] using this
        have hB3 : (na + q) * 1 ≤ 140737488355328 := by omega
        have hB4 : na + q ≤ maxLen := by simp only [maxLen]; omega
        have hmqB := hmB.app hqB
        have hL1 : Lim (m ++ lq).length := lim_k (by rw [List.length_append]; omega)
        have hL2 : Lim ((m ++ lq).length + 300) := lim_k (by rw [List.length_append]; omega)
        have hL3 : Lim (m.length + 300) := lim_k (by omega)
        go_upto_region 23 with (go_at_call 33; with_reducible refine T33.mono ?_; rintro e w4 ⟨b2, ac, rfl, hC⟩)
        have hzz := hS.mods.size
        have hS4 := hS.nix hC.mods
        have hyb : ¬ In y b2 := fun ⟨ad, e, hb⟩ => by
          have := hy.lt ad e
          have := hC.fresh
          omega
        have T34 := f34n w.heap.size w w4 rfl hS4.mods b2 ac k m ⟨hC.ho, by have := hC.fresh; omega, fun ad e => by have := hC.freshA ad e; omega⟩ y q cy lq (hy2.mods hS4.mods (fun _ _ f => f)) hqB hL1 hyb hg
        go_upto_region 24 with (first | (go_at_call 24; with_reducible refine (T24 _).mono ?_; rintro e w' ⟨rfl, rfl⟩) | (go_at_call 34; with_reducible refine T34.mono ?_; rintro e w5 ⟨rfl, ac', hH5, hM5, hM45, hnew⟩))
        have hS5 : PC w w5 b ah aa na ca k m b2 ac' (m ++ lq) := by
          refine ⟨hS4.go hM45 ?_ ?_ ?_ ?_, hH5⟩
          · rintro (h | ⟨ad, e, h⟩)
            · have := hC.fresh; omega
            · have := hC.freshA ad e; omega
          · intro i hi h
            have h0 := hS.hn.ho.ltA i hi
            rcases h with rfl | ⟨ad, e, h⟩
            · have := hC.fresh; omega
            · have := hC.freshA ad e; omega
          · rintro i ⟨ad0, e0, rfl⟩ h
            have h0 := hS.own.toSv.lt ad0 e0
            rcases h with h | ⟨ad, e, h⟩
            · have := hC.fresh; omega
            · have := hC.freshA ad e; omega
          · rintro i (rfl | ⟨ad, e, rfl⟩)
            · have := hC.fresh; omega
            · have := hC.freshA ad e; omega
        clear T33 T34 hC hS4 hH5 hM5 hM45 hnew hyb hzz hS hbw hy hyB
        have T32 : Calls Tryd.prog 32 #[.pointer (some ⟨b, 0, none⟩)] w5.drew fun e w' => ∃ a' c', e = .returned (.slice a' (hsz k) c') ∧ PC w w' b ah aa na ca k m b2 ac' (m ++ lq) ∧ Cv w' (.slice a' (hsz k) c') (strOfNums (hash k m)) := by
          have hSd := hS5.nix (Mods.refl Nix w5).drew
          refine (f32 _ b ah k _ hSd.s.hn.ho hL3 (hg.mods hSd.s.mods (fun f => f))).mono ?_
          rintro e w' ⟨a', c', rfl, hS9⟩
          exact ⟨a', c', rfl, hSd.nix hS9.mods, hS9.own.toSv.cv⟩
        have T26 : HoldsAt (fun w1 => PC w w1 b ah aa na ca k m b2 ac' (m ++ lq)) fun w1 => Calls Tryd.prog 26 #[.int .i64 k, .slice aa na ca] w1 fun e w' => ∃ a' c', e = .returned (.slice a' (hsz k) c') ∧ Mods Nix w1 w' ∧ PC w w' b ah aa na ca k m b2 ac' (m ++ lq) ∧ (convert 22 9 (.slice a' (hsz k) c')).run Tryd.prog w' = .ok (.string (strOfNums (hash k m))) w' := ⟨fun w1 hS1 => by
          refine (f26 w1 k hk _ na ca _ hS1.s.own.toSv (lim_k (by omega)) hmB).mono ?_
          rintro e w' ⟨a', c', rfl, hS9⟩
          exact ⟨a', c', rfl, hS9.mods, hS1.nix hS9.mods, conv hS9.own.toSv⟩⟩
        have T32c : HoldsAt (fun w1 => PC w w1 b ah aa na ca k m b2 ac' (m ++ lq)) fun w1 => Calls Tryd.prog 32 #[.pointer (some ⟨b2, 0, none⟩)] w1 fun e w' => ∃ a' c', e = .returned (.slice a' (hsz k) c') ∧ PC w w' b ah aa na ca k m b2 ac' (m ++ lq) ∧ (∀ i, In a' i → ¬ In aa i) ∧ Sv w' 5 1 a' (hsz k) c' (bv (hash k (m ++ lq))) := ⟨fun w1 hS1 => by
          refine (f32 _ b2 ac' k _ hS1.c.ho hL2 (hg.mods hS1.s.mods (fun f => f))).mono ?_
          rintro e w' ⟨a', c', rfl, hS9⟩
          refine ⟨a', c', rfl, hS1.nix hS9.mods, fun i hi hi2 => ?_, hS9.own.toSv⟩
          obtain ⟨ad, e, rfl⟩ := hi
          obtain ⟨ad2, e2, h2⟩ := hi2
          have h3 := hS9.fresh ad e
          have h4 := hS1.s.own.toSv.lt ad2 e2
          omega⟩
        have T26b : ∀ {w7 w8 a8 c8}, PC w w7 b ah aa na ca k m b2 ac' (m ++ lq) → AppOut w7 w8 5 1 aa a8 (na + q) c8 q (bv m ++ bv lq) → Calls Tryd.prog 26 #[.int .i64 k, .slice a8 (na + q) c8] w8 fun e w' => ∃ a' c', e = .returned (.slice a' (hsz k) c') ∧ Mods Nix w8 w' ∧ Mods Nix w w' ∧ (convert 22 9 (.slice a' (hsz k) c')).run Tryd.prog w' = .ok (.string (strOfNums (hash k (m ++ lq)))) w' := by
          intro w7 w8 a8 c8 h1 hA
          have hb : bv m ++ bv lq = bv (m ++ lq) := by simp [bv]
          rw [hb] at hA
          refine (f26 w8 k hk _ (na + q) c8 _ hA.own.toSv (lim_k (by omega)) hmqB).mono ?_
          rintro e w' ⟨a', c', rfl, hS9⟩
          refine ⟨a', c', rfl, hS9.mods, (h1.s.mods.trans' hA.mods (fun i hi s => ?_)).trans' hS9.mods (fun _ _ f => f), conv hS9.own.toSv⟩
          obtain ⟨ad, e, rfl⟩ := s
          have := h1.s.fresh ad e
          omega
        clear hS5
        refine wp_region_any (by kernel_rfl) ?_
        change wpAny _ _ _ _ _ _ _ (World.drew _)
        refine wpAny_take (i := 0) (v := ?_) rfl (by kernel_rfl) (by kernel_rfl) (by kernel_rfl) (fun _ _ _ h => h) (Or.inl ⟨by rfl, ?_⟩) ?_
        rotate_left
        · intro w
          go_simp
          try with_reducible rfl
        simp only [List.getElem_toArray, List.getElem_cons_zero, Act.put, List.setIfInBounds_toArray, List.set_cons_zero, List.set_cons_succ]
        refine wpAny_take (i := 1) (v := ?_) rfl (by kernel_rfl) (by kernel_rfl) (by kernel_rfl) (fun _ _ _ h => h) (Or.inl ⟨by rfl, ?_⟩) ?_
        rotate_left
        · intro w
          go_simp
          try with_reducible rfl
        simp only [List.getElem_toArray, List.getElem_cons_succ, List.getElem_cons_zero, Act.put, List.setIfInBounds_toArray, List.set_cons_zero, List.set_cons_succ]
        refine wpAny_take (i := 2) (v := ?_) rfl (by kernel_rfl) (by kernel_rfl) (by kernel_rfl) (fun _ _ _ h => h) (Or.inl ⟨by rfl, ?_⟩) ?_
        rotate_left
        · intro w
          go_simp
          try with_reducible rfl
        simp only [List.getElem_toArray, List.getElem_cons_succ, List.getElem_cons_zero, Act.put, List.setIfInBounds_toArray, List.set_cons_zero, List.set_cons_succ]
        refine wpAny_take (i := 5) (v := ?_) rfl (by kernel_rfl) (by kernel_rfl) (by kernel_rfl) (fun _ _ _ h => h) (Or.inl ⟨by rfl, ?_⟩) ?_
        rotate_left
        · intro w
          go_simp
          try with_reducible rfl
        simp only [List.getElem_toArray, List.getElem_cons_succ, List.getElem_cons_zero, Act.put, List.setIfInBounds_toArray, List.set_cons_zero, List.set_cons_succ]
        refine wpAny_take (i := 6) (v := ?_) rfl (by kernel_rfl) (by kernel_rfl) (by kernel_rfl) (fun _ _ _ h => h) (Or.inl ⟨by rfl, ?_⟩) ?_
        rotate_left
        · intro w
          go_simp
          try with_reducible rfl
        simp only [List.getElem_toArray, List.getElem_cons_succ, List.getElem_cons_zero, Act.put, List.setIfInBounds_toArray, List.set_cons_zero, List.set_cons_succ]
        refine wpAny_ready (rs := [3]) (by kernel_rfl) (by simp) ?_
        refine AllReady.cons rfl (fun K hK => ?_) ?_
        · go_simp
          go_wp2_with (go_at_call 32; with_reducible refine T32.mono ?_; rintro e w5 ⟨a5, c5, rfl, hS5, cv5⟩; have k5 := cv5.out _ (Mods.refl Nix w5); have T6 := T26.out _ hS5)
          try simp only [List.getElem_toArray, List.getElem_cons_succ, List.getElem_cons_zero, Act.put, List.setIfInBounds_toArray, List.set_cons_zero, List.set_cons_succ]
          refine wpAny_ready (rs := [4, 7]) (by kernel_rfl) (by simp) ?_
          refine AllReady.cons rfl (fun K hK => ?_) ?_
          · go_simp
            refine hK _ _ ?_
            clear hK K
            try simp only [List.getElem_toArray, List.getElem_cons_succ, List.getElem_cons_zero, Act.put, List.setIfInBounds_toArray, List.set_cons_zero, List.set_cons_succ]
            refine wpAny_ready (rs := [7]) (by kernel_rfl) (by simp) ?_
            refine AllReady.cons rfl (fun K hK => ?_) ?_
            · go_simp
              go_wp2_with (go_at_call 26; with_reducible refine T6.mono ?_; rintro e w6 ⟨a6, c6, rfl, hM56, hS6, k6⟩; have k5b := cv5.out _ hM56; have T7 := T32c.out _ hS6)
              try simp only [List.getElem_toArray, List.getElem_cons_succ, List.getElem_cons_zero, Act.put, List.setIfInBounds_toArray, List.set_cons_zero, List.set_cons_succ]
              refine wpAny_ready (rs := [8]) (by kernel_rfl) (by simp) ?_
              refine AllReady.cons rfl (fun K hK => ?_) ?_
              · go_simp
                refine hK _ _ ?_
                clear hK K
                try simp only [List.getElem_toArray, List.getElem_cons_succ, List.getElem_cons_zero, Act.put, List.setIfInBounds_toArray, List.set_cons_zero, List.set_cons_succ]
                refine wpAny_take (i := 9) (v := ?_) rfl (by kernel_rfl) (by kernel_rfl) (by kernel_rfl) (fun _ _ _ h => h) (Or.inl ⟨by rfl, ?_⟩) ?_
                rotate_left
                · intro w
                  go_simp
                  try with_reducible rfl
                simp only [List.getElem_toArray, List.getElem_cons_succ, List.getElem_cons_zero, Act.put, List.setIfInBounds_toArray, List.set_cons_zero, List.set_cons_succ]
                refine wpAny_take (i := 10) (v := ?_) rfl (by kernel_rfl) (by kernel_rfl) (by kernel_rfl) (fun _ _ _ h => h) (Or.inl ⟨by rfl, ?_⟩) ?_
                rotate_left
                · intro w
                  go_simp
                  try with_reducible rfl
                simp only [List.getElem_toArray, List.getElem_cons_succ, List.getElem_cons_zero, Act.put, List.setIfInBounds_toArray, List.set_cons_zero, List.set_cons_succ]
                refine wpAny_take (i := 11) (v := ?_) rfl (by kernel_rfl) (by kernel_rfl) (by kernel_rfl) (fun _ _ _ h => h) (Or.inl ⟨by rfl, ?_⟩) ?_
                rotate_left
                · intro w
                  go_simp
                  try with_reducible rfl
                simp only [List.getElem_toArray, List.getElem_cons_succ, List.getElem_cons_zero, Act.put, List.setIfInBounds_toArray, List.set_cons_zero, List.set_cons_succ]
                refine wpAny_take (i := 12) (v := ?_) rfl (by kernel_rfl) (by kernel_rfl) (by kernel_rfl) (fun _ _ _ h => h) (Or.inl ⟨by rfl, ?_⟩) ?_
                rotate_left
                · intro w
                  go_simp
                  try with_reducible rfl
                simp only [List.getElem_toArray, List.getElem_cons_succ, List.getElem_cons_zero, Act.put, List.setIfInBounds_toArray, List.set_cons_zero, List.set_cons_succ]
                refine wpAny_take (i := 15) (v := ?_) rfl (by kernel_rfl) (by kernel_rfl) (by kernel_rfl) (fun _ _ _ h => h) (Or.inl ⟨by rfl, ?_⟩) ?_
                rotate_left
                · intro w
                  go_simp
                  try with_reducible rfl
                simp only [List.getElem_toArray, List.getElem_cons_succ, List.getElem_cons_zero, Act.put, List.setIfInBounds_toArray, List.set_cons_zero, List.set_cons_succ]
                refine wpAny_take (i := 16) (v := ?_) rfl (by kernel_rfl) (by kernel_rfl) (by kernel_rfl) (fun _ _ _ h => h) (Or.inl ⟨by rfl, ?_⟩) ?_
                rotate_left
                · intro w
                  go_simp
                  try with_reducible rfl
                simp only [List.getElem_toArray, List.getElem_cons_succ, List.getElem_cons_zero, Act.put, List.setIfInBounds_toArray, List.set_cons_zero, List.set_cons_succ]
                refine wpAny_take (i := 17) (v := ?_) rfl (by kernel_rfl) (by kernel_rfl) (by kernel_rfl) (fun _ _ _ h => h) (Or.inl ⟨by rfl, ?_⟩) ?_
                rotate_left
                · intro w
                  go_simp
                  try with_reducible rfl
                simp only [List.getElem_toArray, List.getElem_cons_succ, List.getElem_cons_zero, Act.put, List.setIfInBounds_toArray, List.set_cons_zero, List.set_cons_succ]
                refine wpAny_ready (rs := [13]) (by kernel_rfl) (by simp) ?_
                refine AllReady.cons rfl (fun K hK => ?_) ?_
                · go_simp
                  go_wp2_with (go_at_call 32; with_reducible refine T7.mono ?_; rintro e w7 ⟨a7, c7, rfl, hS7, hd7, sv7⟩; have k7 := conv sv7)
                  try simp only [List.getElem_toArray, List.getElem_cons_succ, List.getElem_cons_zero, Act.put, List.setIfInBounds_toArray, List.set_cons_zero, List.set_cons_succ]
                  refine wpAny_ready (rs := [14, 18]) (by kernel_rfl) (by simp) ?_
                  refine AllReady.cons rfl (fun K hK => ?_) ?_
                  · go_simp
                    refine hK _ _ ?_
                    clear hK K
                    try simp only [List.getElem_toArray, List.getElem_cons_succ, List.getElem_cons_zero, Act.put, List.setIfInBounds_toArray, List.set_cons_zero, List.set_cons_succ]
                    refine wpAny_ready (rs := [18]) (by kernel_rfl) (by simp) ?_
                    refine AllReady.cons rfl (fun K hK => ?_) ?_
                    · go_simp
                      go_wp2_with (go_at_call 24; with_reducible refine (T24 _).mono ?_; rintro e w' ⟨rfl, rfl⟩)
                      try simp only [List.getElem_toArray, List.getElem_cons_succ, List.getElem_cons_zero, Act.put, List.setIfInBounds_toArray, List.set_cons_zero, List.set_cons_succ]
                      refine wpAny_ready (rs := [19]) (by kernel_rfl) (by simp) ?_
                      refine AllReady.cons rfl (fun K hK => ?_) ?_
                      · refine step_appg (by first | rfl | kernel_rfl) _ _ ei22 rfl hS7.s.own (hy2.mods hS7.s.mods (fun _ _ f => f)) rfl rfl (bv_one _) hB3 hB4 ?_; intro a8 c8 w8 hA; have T8 := T26b hS7 hA; have sv7b := sv7.mods hA.mods hd7; have k7b := conv sv7b
                        refine hK _ _ ?_
                        clear hK K
                        try simp only [List.getElem_toArray, List.getElem_cons_succ, List.getElem_cons_zero, Act.put, List.setIfInBounds_toArray, List.set_cons_zero, List.set_cons_succ]
                        refine wpAny_ready (rs := [20]) (by kernel_rfl) (by simp) ?_
                        refine AllReady.cons rfl (fun K hK => ?_) ?_
                        · go_simp
                          go_wp2_with (go_at_call 26; with_reducible refine T8.mono ?_; rintro e w9 ⟨a9, c9, rfl, hM89, hM9, k9⟩; have k7c := conv (sv7b.mods hM89 (fun _ _ f => f)))
                          try simp only [List.getElem_toArray, List.getElem_cons_succ, List.getElem_cons_zero, Act.put, List.setIfInBounds_toArray, List.set_cons_zero, List.set_cons_succ]
                          refine wpAny_ready (rs := [21]) (by kernel_rfl) (by simp) ?_
                          refine AllReady.cons rfl (fun K hK => ?_) ?_
                          · go_simp
                            refine hK _ _ ?_
                            clear hK K
                            try simp only [List.getElem_toArray, List.getElem_cons_succ, List.getElem_cons_zero, Act.put, List.setIfInBounds_toArray, List.set_cons_zero, List.set_cons_succ]
                            refine wpAny_take (i := 22) (v := ?_) rfl (by kernel_rfl) (by kernel_rfl) (by kernel_rfl) (fun _ _ _ h => h) (Or.inl ⟨by rfl, ?_⟩) ?_
                            rotate_left
                            · intro w
                              go_simp
                              try with_reducible rfl
                            simp only [List.getElem_toArray, List.getElem_cons_succ, List.getElem_cons_zero, Act.put, List.setIfInBounds_toArray, List.set_cons_zero, List.set_cons_succ]
                            refine wpAny_take (i := 23) (v := ?_) rfl (by kernel_rfl) (by kernel_rfl) (by kernel_rfl) (fun _ _ _ h => h) (Or.inl ⟨by rfl, ?_⟩) ?_
                            rotate_left
                            · intro w
                              go_simp
                              try with_reducible rfl
                            simp only [List.getElem_toArray, List.getElem_cons_succ, List.getElem_cons_zero, Act.put, List.setIfInBounds_toArray, List.set_cons_zero, List.set_cons_succ]
                            refine wpAny_take (i := 24) (v := ?_) rfl (by kernel_rfl) (by kernel_rfl) (by kernel_rfl) (fun _ _ _ h => h) (Or.inl ⟨by rfl, ?_⟩) ?_
                            rotate_left
                            · intro w
                              go_simp
                              try with_reducible rfl
                            simp only [List.getElem_toArray, List.getElem_cons_succ, List.getElem_cons_zero, Act.put, List.setIfInBounds_toArray, List.set_cons_zero, List.set_cons_succ]
                            refine wpAny_done (by kernel_rfl) ?_ _
                            go_wp2_with fail
                            go_ret
                            exact ⟨rfl, hM9⟩
                          exact AllReady.nil
                        exact AllReady.nil
                      exact AllReady.nil
                    exact AllReady.nil
                  refine AllReady.cons rfl (fun K hK => ?_) ?_
                  · go_simp
                    go_wp2_with (go_at_call 24; with_reducible refine (T24 _).mono ?_; rintro e w' ⟨rfl, rfl⟩)
                    try simp only [List.getElem_toArray, List.getElem_cons_succ, List.getElem_cons_zero, Act.put, List.setIfInBounds_toArray, List.set_cons_zero, List.set_cons_succ]
                    refine wpAny_ready (rs := [14, 19]) (by kernel_rfl) (by simp) ?_
                    refine AllReady.cons rfl (fun K hK => ?_) ?_
                    · go_simp
                      refine hK _ _ ?_
                      clear hK K
                      try simp only [List.getElem_toArray, List.getElem_cons_succ, List.getElem_cons_zero, Act.put, List.setIfInBounds_toArray, List.set_cons_zero, List.set_cons_succ]
                      refine wpAny_ready (rs := [19]) (by kernel_rfl) (by simp) ?_
                      refine AllReady.cons rfl (fun K hK => ?_) ?_
                      · refine step_appg (by first | rfl | kernel_rfl) _ _ ei22 rfl hS7.s.own (hy2.mods hS7.s.mods (fun _ _ f => f)) rfl rfl (bv_one _) hB3 hB4 ?_; intro a8 c8 w8 hA; have T8 := T26b hS7 hA; have sv7b := sv7.mods hA.mods hd7; have k7b := conv sv7b
                        refine hK _ _ ?_
                        clear hK K
                        try simp only [List.getElem_toArray, List.getElem_cons_succ, List.getElem_cons_zero, Act.put, List.setIfInBounds_toArray, List.set_cons_zero, List.set_cons_succ]
                        refine wpAny_ready (rs := [20]) (by kernel_rfl) (by simp) ?_
                        refine AllReady.cons rfl (fun K hK => ?_) ?_
                        · go_simp
                          go_wp2_with (go_at_call 26; with_reducible refine T8.mono ?_; rintro e w9 ⟨a9, c9, rfl, hM89, hM9, k9⟩; have k7c := conv (sv7b.mods hM89 (fun _ _ f => f)))
                          try simp only [List.getElem_toArray, List.getElem_cons_succ, List.getElem_cons_zero, Act.put, List.setIfInBounds_toArray, List.set_cons_zero, List.set_cons_succ]
                          refine wpAny_ready (rs := [21]) (by kernel_rfl) (by simp) ?_
                          refine AllReady.cons rfl (fun K hK => ?_) ?_
                          · go_simp
                            refine hK _ _ ?_
                            clear hK K
                            try simp only [List.getElem_toArray, List.getElem_cons_succ, List.getElem_cons_zero, Act.put, List.setIfInBounds_toArray, List.set_cons_zero, List.set_cons_succ]
                            refine wpAny_take (i := 22) (v := ?_) rfl (by kernel_rfl) (by kernel_rfl) (by kernel_rfl) (fun _ _ _ h => h) (Or.inl ⟨by rfl, ?_⟩) ?_
                            rotate_left
                            · intro w
                              go_simp
                              try with_reducible rfl
                            simp only [List.getElem_toArray, List.getElem_cons_succ, List.getElem_cons_zero, Act.put, List.setIfInBounds_toArray, List.set_cons_zero, List.set_cons_succ]
                            refine wpAny_take (i := 23) (v := ?_) rfl (by kernel_rfl) (by kernel_rfl) (by kernel_rfl) (fun _ _ _ h => h) (Or.inl ⟨by rfl, ?_⟩) ?_
                            rotate_left
                            · intro w
                              go_simp
                              try with_reducible rfl
                            simp only [List.getElem_toArray, List.getElem_cons_succ, List.getElem_cons_zero, Act.put, List.setIfInBounds_toArray, List.set_cons_zero, List.set_cons_succ]
                            refine wpAny_take (i := 24) (v := ?_) rfl (by kernel_rfl) (by kernel_rfl) (by kernel_rfl) (fun _ _ _ h => h) (Or.inl ⟨by rfl, ?_⟩) ?_
                            rotate_left
                            · intro w
                              go_simp
                              try with_reducible rfl
                            simp only [List.getElem_toArray, List.getElem_cons_succ, List.getElem_cons_zero, Act.put, List.setIfInBounds_toArray, List.set_cons_zero, List.set_cons_succ]
                            refine wpAny_done (by kernel_rfl) ?_ _
                            go_wp2_with fail
                            go_ret
                            exact ⟨rfl, hM9⟩
                          exact AllReady.nil
                        exact AllReady.nil
                      exact AllReady.nil
                    refine AllReady.cons rfl (fun K hK => ?_) ?_
                    · refine step_appg (by first | rfl | kernel_rfl) _ _ ei22 rfl hS7.s.own (hy2.mods hS7.s.mods (fun _ _ f => f)) rfl rfl (bv_one _) hB3 hB4 ?_; intro a8 c8 w8 hA; have T8 := T26b hS7 hA; have sv7b := sv7.mods hA.mods hd7; have k7b := conv sv7b
                      refine hK _ _ ?_
                      clear hK K
                      try simp only [List.getElem_toArray, List.getElem_cons_succ, List.getElem_cons_zero, Act.put, List.setIfInBounds_toArray, List.set_cons_zero, List.set_cons_succ]
                      refine wpAny_ready (rs := [14, 20]) (by kernel_rfl) (by simp) ?_
                      refine AllReady.cons rfl (fun K hK => ?_) ?_
                      · go_simp
                        refine hK _ _ ?_
                        clear hK K
                        try simp only [List.getElem_toArray, List.getElem_cons_succ, List.getElem_cons_zero, Act.put, List.setIfInBounds_toArray, List.set_cons_zero, List.set_cons_succ]
                        refine wpAny_ready (rs := [20]) (by kernel_rfl) (by simp) ?_
                        refine AllReady.cons rfl (fun K hK => ?_) ?_
                        · go_simp
                          go_wp2_with (go_at_call 26; with_reducible refine T8.mono ?_; rintro e w9 ⟨a9, c9, rfl, hM89, hM9, k9⟩; have k7c := conv (sv7b.mods hM89 (fun _ _ f => f)))
                          try simp only [List.getElem_toArray, List.getElem_cons_succ, List.getElem_cons_zero, Act.put, List.setIfInBounds_toArray, List.set_cons_zero, List.set_cons_succ]
                          refine wpAny_ready (rs := [21]) (by kernel_rfl) (by simp) ?_
                          refine AllReady.cons rfl (fun K hK => ?_) ?_
                          · go_simp
                            refine hK _ _ ?_
                            clear hK K
                            try simp only [List.getElem_toArray, List.getElem_cons_succ, List.getElem_cons_zero, Act.put, List.setIfInBounds_toArray, List.set_cons_zero, List.set_cons_succ]
                            refine wpAny_take (i := 22) (v := ?_) rfl (by kernel_rfl) (by kernel_rfl) (by kernel_rfl) (fun _ _ _ h => h) (Or.inl ⟨by rfl, ?_⟩) ?_
                            rotate_left
                            · intro w
                              go_simp
                              try with_reducible rfl
                            simp only [List.getElem_toArray, List.getElem_cons_succ, List.getElem_cons_zero, Act.put, List.setIfInBounds_toArray, List.set_cons_zero, List.set_cons_succ]
                            refine wpAny_take (i := 23) (v := ?_) rfl (by kernel_rfl) (by kernel_rfl) (by kernel_rfl) (fun _ _ _ h => h) (Or.inl ⟨by rfl, ?_⟩) ?_
                            rotate_left
                            · intro w
                              go_simp
                              try with_reducible rfl
                            simp only [List.getElem_toArray, List.getElem_cons_succ, List.getElem_cons_zero, Act.put, List.setIfInBounds_toArray, List.set_cons_zero, List.set_cons_succ]
                            refine wpAny_take (i := 24) (v := ?_) rfl (by kernel_rfl) (by kernel_rfl) (by kernel_rfl) (fun _ _ _ h => h) (Or.inl ⟨by rfl, ?_⟩) ?_
                            rotate_left
                            · intro w
                              go_simp
                              try with_reducible rfl
                            simp only [List.getElem_toArray, List.getElem_cons_succ, List.getElem_cons_zero, Act.put, List.setIfInBounds_toArray, List.set_cons_zero, List.set_cons_succ]
                            refine wpAny_done (by kernel_rfl) ?_ _
                            go_wp2_with fail
                            go_ret
                            exact ⟨rfl, hM9⟩
                          exact AllReady.nil
                        exact AllReady.nil
                      refine AllReady.cons rfl (fun K hK => ?_) ?_
                      · go_simp
                        go_wp2_with (go_at_call 26; with_reducible refine T8.mono ?_; rintro e w9 ⟨a9, c9, rfl, hM89, hM9, k9⟩; have k7c := conv (sv7b.mods hM89 (fun _ _ f => f)))
                        try simp only [List.getElem_toArray, List.getElem_cons_succ, List.getElem_cons_zero, Act.put, List.setIfInBounds_toArray, List.set_cons_zero, List.set_cons_succ]
                        refine wpAny_ready (rs := [14, 21]) (by kernel_rfl) (by simp) ?_
                        refine AllReady.cons rfl (fun K hK => ?_) ?_
                        · go_simp
                          refine hK _ _ ?_
                          clear hK K
                          try simp only [List.getElem_toArray, List.getElem_cons_succ, List.getElem_cons_zero, Act.put, List.setIfInBounds_toArray, List.set_cons_zero, List.set_cons_succ]
                          refine wpAny_ready (rs := [21]) (by kernel_rfl) (by simp) ?_
                          refine AllReady.cons rfl (fun K hK => ?_) ?_
                          · go_simp
                            refine hK _ _ ?_
                            clear hK K
                            try simp only [List.getElem_toArray, List.getElem_cons_succ, List.getElem_cons_zero, Act.put, List.setIfInBounds_toArray, List.set_cons_zero, List.set_cons_succ]
                            refine wpAny_take (i := 22) (v := ?_) rfl (by kernel_rfl) (by kernel_rfl) (by kernel_rfl) (fun _ _ _ h => h) (Or.inl ⟨by rfl, ?_⟩) ?_
                            rotate_left
                            · intro w
                              go_simp
                              try with_reducible rfl
                            simp only [List.getElem_toArray, List.getElem_cons_succ, List.getElem_cons_zero, Act.put, List.setIfInBounds_toArray, List.set_cons_zero, List.set_cons_succ]
                            refine wpAny_take (i := 23) (v := ?_) rfl (by kernel_rfl) (by kernel_rfl) (by kernel_rfl) (fun _ _ _ h => h) (Or.inl ⟨by rfl, ?_⟩) ?_
                            rotate_left
                            · intro w
                              go_simp
                              try with_reducible rfl
                            simp only [List.getElem_toArray, List.getElem_cons_succ, List.getElem_cons_zero, Act.put, List.setIfInBounds_toArray, List.set_cons_zero, List.set_cons_succ]
                            refine wpAny_take (i := 24) (v := ?_) rfl (by kernel_rfl) (by kernel_rfl) (by kernel_rfl) (fun _ _ _ h => h) (Or.inl ⟨by rfl, ?_⟩) ?_
                            rotate_left
                            · intro w
                              go_simp
                              try with_reducible rfl
                            simp only [List.getElem_toArray, List.getElem_cons_succ, List.getElem_cons_zero, Act.put, List.setIfInBounds_toArray, List.set_cons_zero, List.set_cons_succ]
                            refine wpAny_done (by kernel_rfl) ?_ _
                            go_wp2_with fail
                            go_ret
                            exact ⟨rfl, hM9⟩
                          exact AllReady.nil
                        refine AllReady.cons rfl (fun K hK => ?_) ?_
                        · go_simp
                          refine hK _ _ ?_
                          clear hK K
                          try simp only [List.getElem_toArray, List.getElem_cons_succ, List.getElem_cons_zero, Act.put, List.setIfInBounds_toArray, List.set_cons_zero, List.set_cons_succ]
                          refine wpAny_ready (rs := [14]) (by kernel_rfl) (by simp) ?_
                          refine AllReady.cons rfl (fun K hK => ?_) ?_
                          · go_simp
                            refine hK _ _ ?_
                            clear hK K
                            try simp only [List.getElem_toArray, List.getElem_cons_succ, List.getElem_cons_zero, Act.put, List.setIfInBounds_toArray, List.set_cons_zero, List.set_cons_succ]
                            refine wpAny_take (i := 22) (v := ?_) rfl (by kernel_rfl) (by kernel_rfl) (by kernel_rfl) (fun _ _ _ h => h) (Or.inl ⟨by rfl, ?_⟩) ?_
                            rotate_left
                            · intro w
                              go_simp
                              try with_reducible rfl
                            simp only [List.getElem_toArray, List.getElem_cons_succ, List.getElem_cons_zero, Act.put, List.setIfInBounds_toArray, List.set_cons_zero, List.set_cons_succ]
                            refine wpAny_take (i := 23) (v := ?_) rfl (by kernel_rfl) (by kernel_rfl) (by kernel_rfl) (fun _ _ _ h => h) (Or.inl ⟨by rfl, ?_⟩) ?_
                            rotate_left
                            · intro w
                              go_simp
                              try with_reducible rfl
                            simp only [List.getElem_toArray, List.getElem_cons_succ, List.getElem_cons_zero, Act.put, List.setIfInBounds_toArray, List.set_cons_zero, List.set_cons_succ]
                            refine wpAny_take (i := 24) (v := ?_) rfl (by kernel_rfl) (by kernel_rfl) (by kernel_rfl) (fun _ _ _ h => h) (Or.inl ⟨by rfl, ?_⟩) ?_
                            rotate_left
                            · intro w
                              go_simp
                              try with_reducible rfl
                            simp only [List.getElem_toArray, List.getElem_cons_succ, List.getElem_cons_zero, Act.put, List.setIfInBounds_toArray, List.set_cons_zero, List.set_cons_succ]
                            refine wpAny_done (by kernel_rfl) ?_ _
                            go_wp2_with fail
                            go_ret
                            exact ⟨rfl, hM9⟩
                          exact AllReady.nil
                        exact AllReady.nil
                      exact AllReady.nil
                    exact AllReady.nil
                  exact AllReady.nil
                exact AllReady.nil
              exact AllReady.nil
            exact AllReady.nil
          refine AllReady.cons rfl (fun K hK => ?_) ?_
          · go_simp
            go_wp2_with (go_at_call 26; with_reducible refine T6.mono ?_; rintro e w6 ⟨a6, c6, rfl, hM56, hS6, k6⟩; have k5b := cv5.out _ hM56; have T7 := T32c.out _ hS6)
            try simp only [List.getElem_toArray, List.getElem_cons_succ, List.getElem_cons_zero, Act.put, List.setIfInBounds_toArray, List.set_cons_zero, List.set_cons_succ]
            refine wpAny_ready (rs := [4, 8]) (by kernel_rfl) (by simp) ?_
            refine AllReady.cons rfl (fun K hK => ?_) ?_
            · go_simp
              refine hK _ _ ?_
              clear hK K
              try simp only [List.getElem_toArray, List.getElem_cons_succ, List.getElem_cons_zero, Act.put, List.setIfInBounds_toArray, List.set_cons_zero, List.set_cons_succ]
              refine wpAny_ready (rs := [8]) (by kernel_rfl) (by simp) ?_
              refine AllReady.cons rfl (fun K hK => ?_) ?_
              · go_simp
                refine hK _ _ ?_
                clear hK K
                try simp only [List.getElem_toArray, List.getElem_cons_succ, List.getElem_cons_zero, Act.put, List.setIfInBounds_toArray, List.set_cons_zero, List.set_cons_succ]
                refine wpAny_take (i := 9) (v := ?_) rfl (by kernel_rfl) (by kernel_rfl) (by kernel_rfl) (fun _ _ _ h => h) (Or.inl ⟨by rfl, ?_⟩) ?_
                rotate_left
                · intro w
                  go_simp
                  try with_reducible rfl
                simp only [List.getElem_toArray, List.getElem_cons_succ, List.getElem_cons_zero, Act.put, List.setIfInBounds_toArray, List.set_cons_zero, List.set_cons_succ]
                refine wpAny_take (i := 10) (v := ?_) rfl (by kernel_rfl) (by kernel_rfl) (by kernel_rfl) (fun _ _ _ h => h) (Or.inl ⟨by rfl, ?_⟩) ?_
                rotate_left
                · intro w
                  go_simp
                  try with_reducible rfl
                simp only [List.getElem_toArray, List.getElem_cons_succ, List.getElem_cons_zero, Act.put, List.setIfInBounds_toArray, List.set_cons_zero, List.set_cons_succ]
                refine wpAny_take (i := 11) (v := ?_) rfl (by kernel_rfl) (by kernel_rfl) (by kernel_rfl) (fun _ _ _ h => h) (Or.inl ⟨by rfl, ?_⟩) ?_
                rotate_left
                · intro w
                  go_simp
                  try with_reducible rfl
                simp only [List.getElem_toArray, List.getElem_cons_succ, List.getElem_cons_zero, Act.put, List.setIfInBounds_toArray, List.set_cons_zero, List.set_cons_succ]
                refine wpAny_take (i := 12) (v := ?_) rfl (by kernel_rfl) (by kernel_rfl) (by kernel_rfl) (fun _ _ _ h => h) (Or.inl ⟨by rfl, ?_⟩) ?_
                rotate_left
                · intro w
                  go_simp
                  try with_reducible rfl
                simp only [List.getElem_toArray, List.getElem_cons_succ, List.getElem_cons_zero, Act.put, List.setIfInBounds_toArray, List.set_cons_zero, List.set_cons_succ]
                refine wpAny_take (i := 15) (v := ?_) rfl (by kernel_rfl) (by kernel_rfl) (by kernel_rfl) (fun _ _ _ h => h) (Or.inl ⟨by rfl, ?_⟩) ?_
                rotate_left
                · intro w
                  go_simp
                  try with_reducible rfl
                simp only [List.getElem_toArray, List.getElem_cons_succ, List.getElem_cons_zero, Act.put, List.setIfInBounds_toArray, List.set_cons_zero, List.set_cons_succ]
                refine wpAny_take (i := 16) (v := ?_) rfl (by kernel_rfl) (by kernel_rfl) (by kernel_rfl) (fun _ _ _ h => h) (Or.inl ⟨by rfl, ?_⟩) ?_
                rotate_left
                · intro w
                  go_simp
                  try with_reducible rfl
                simp only [List.getElem_toArray, List.getElem_cons_succ, List.getElem_cons_zero, Act.put, List.setIfInBounds_toArray, List.set_cons_zero, List.set_cons_succ]
                refine wpAny_take (i := 17) (v := ?_) rfl (by kernel_rfl) (by kernel_rfl) (by kernel_rfl) (fun _ _ _ h => h) (Or.inl ⟨by rfl, ?_⟩) ?_
                rotate_left
                · intro w
                  go_simp
                  try with_reducible rfl
                simp only [List.getElem_toArray, List.getElem_cons_succ, List.getElem_cons_zero, Act.put, List.setIfInBounds_toArray, List.set_cons_zero, List.set_cons_succ]
                refine wpAny_ready (rs := [13]) (by kernel_rfl) (by simp) ?_
                refine AllReady.cons rfl (fun K hK => ?_) ?_
                · go_simp
                  go_wp2_with (go_at_call 32; with_reducible refine T7.mono ?_; rintro e w7 ⟨a7, c7, rfl, hS7, hd7, sv7⟩; have k7 := conv sv7)
                  try simp only [List.getElem_toArray, List.getElem_cons_succ, List.getElem_cons_zero, Act.put, List.setIfInBounds_toArray, List.set_cons_zero, List.set_cons_succ]
                  refine wpAny_ready (rs := [14, 18]) (by kernel_rfl) (by simp) ?_
                  refine AllReady.cons rfl (fun K hK => ?_) ?_
                  · go_simp
                    refine hK _ _ ?_
                    clear hK K
                    try simp only [List.getElem_toArray, List.getElem_cons_succ, List.getElem_cons_zero, Act.put, List.setIfInBounds_toArray, List.set_cons_zero, List.set_cons_succ]
                    refine wpAny_ready (rs := [18]) (by kernel_rfl) (by simp) ?_
                    refine AllReady.cons rfl (fun K hK => ?_) ?_
                    · go_simp
                      go_wp2_with (go_at_call 24; with_reducible refine (T24 _).mono ?_; rintro e w' ⟨rfl, rfl⟩)
                      try simp only [List.getElem_toArray, List.getElem_cons_succ, List.getElem_cons_zero, Act.put, List.setIfInBounds_toArray, List.set_cons_zero, List.set_cons_succ]
                      refine wpAny_ready (rs := [19]) (by kernel_rfl) (by simp) ?_
                      refine AllReady.cons rfl (fun K hK => ?_) ?_
                      · refine step_appg (by first | rfl | kernel_rfl) _ _ ei22 rfl hS7.s.own (hy2.mods hS7.s.mods (fun _ _ f => f)) rfl rfl (bv_one _) hB3 hB4 ?_; intro a8 c8 w8 hA; have T8 := T26b hS7 hA; have sv7b := sv7.mods hA.mods hd7; have k7b := conv sv7b
                        refine hK _ _ ?_
                        clear hK K
                        try simp only [List.getElem_toArray, List.getElem_cons_succ, List.getElem_cons_zero, Act.put, List.setIfInBounds_toArray, List.set_cons_zero, List.set_cons_succ]
                        refine wpAny_ready (rs := [20]) (by kernel_rfl) (by simp) ?_
                        refine AllReady.cons rfl (fun K hK => ?_) ?_
                        · go_simp
                          go_wp2_with (go_at_call 26; with_reducible refine T8.mono ?_; rintro e w9 ⟨a9, c9, rfl, hM89, hM9, k9⟩; have k7c := conv (sv7b.mods hM89 (fun _ _ f => f)))
                          try simp only [List.getElem_toArray, List.getElem_cons_succ, List.getElem_cons_zero, Act.put, List.setIfInBounds_toArray, List.set_cons_zero, List.set_cons_succ]
                          refine wpAny_ready (rs := [21]) (by kernel_rfl) (by simp) ?_
                          refine AllReady.cons rfl (fun K hK => ?_) ?_
                          · go_simp
                            refine hK _ _ ?_
                            clear hK K
                            try simp only [List.getElem_toArray, List.getElem_cons_succ, List.getElem_cons_zero, Act.put, List.setIfInBounds_toArray, List.set_cons_zero, List.set_cons_succ]
                            refine wpAny_take (i := 22) (v := ?_) rfl (by kernel_rfl) (by kernel_rfl) (by kernel_rfl) (fun _ _ _ h => h) (Or.inl ⟨by rfl, ?_⟩) ?_
                            rotate_left
                            · intro w
                              go_simp
                              try with_reducible rfl
                            simp only [List.getElem_toArray, List.getElem_cons_succ, List.getElem_cons_zero, Act.put, List.setIfInBounds_toArray, List.set_cons_zero, List.set_cons_succ]
                            refine wpAny_take (i := 23) (v := ?_) rfl (by kernel_rfl) (by kernel_rfl) (by kernel_rfl) (fun _ _ _ h => h) (Or.inl ⟨by rfl, ?_⟩) ?_
                            rotate_left
                            · intro w
                              go_simp
                              try with_reducible rfl
                            simp only [List.getElem_toArray, List.getElem_cons_succ, List.getElem_cons_zero, Act.put, List.setIfInBounds_toArray, List.set_cons_zero, List.set_cons_succ]
                            refine wpAny_take (i := 24) (v := ?_) rfl (by kernel_rfl) (by kernel_rfl) (by kernel_rfl) (fun _ _ _ h => h) (Or.inl ⟨by rfl, ?_⟩) ?_
                            rotate_left
                            · intro w
                              go_simp
                              try with_reducible rfl
                            simp only [List.getElem_toArray, List.getElem_cons_succ, List.getElem_cons_zero, Act.put, List.setIfInBounds_toArray, List.set_cons_zero, List.set_cons_succ]
                            refine wpAny_done (by kernel_rfl) ?_ _
                            go_wp2_with fail
                            go_ret
                            exact ⟨rfl, hM9⟩
                          exact AllReady.nil
                        exact AllReady.nil
                      exact AllReady.nil
                    exact AllReady.nil
                  refine AllReady.cons rfl (fun K hK => ?_) ?_
                  · go_simp
                    go_wp2_with (go_at_call 24; with_reducible refine (T24 _).mono ?_; rintro e w' ⟨rfl, rfl⟩)
                    try simp only [List.getElem_toArray, List.getElem_cons_succ, List.getElem_cons_zero, Act.put, List.setIfInBounds_toArray, List.set_cons_zero, List.set_cons_succ]
                    refine wpAny_ready (rs := [14, 19]) (by kernel_rfl) (by simp) ?_
                    refine AllReady.cons rfl (fun K hK => ?_) ?_
                    · go_simp
                      refine hK _ _ ?_
                      clear hK K
                      try simp only [List.getElem_toArray, List.getElem_cons_succ, List.getElem_cons_zero, Act.put, List.setIfInBounds_toArray, List.set_cons_zero, List.set_cons_succ]
                      refine wpAny_ready (rs := [19]) (by kernel_rfl) (by simp) ?_
                      refine AllReady.cons rfl (fun K hK => ?_) ?_
                      · refine step_appg (by first | rfl | kernel_rfl) _ _ ei22 rfl hS7.s.own (hy2.mods hS7.s.mods (fun _ _ f => f)) rfl rfl (bv_one _) hB3 hB4 ?_; intro a8 c8 w8 hA; have T8 := T26b hS7 hA; have sv7b := sv7.mods hA.mods hd7; have k7b := conv sv7b
                        refine hK _ _ ?_
                        clear hK K
                        try simp only [List.getElem_toArray, List.getElem_cons_succ, List.getElem_cons_zero, Act.put, List.setIfInBounds_toArray, List.set_cons_zero, List.set_cons_succ]
                        refine wpAny_ready (rs := [20]) (by kernel_rfl) (by simp) ?_
                        refine AllReady.cons rfl (fun K hK => ?_) ?_
                        · go_simp
                          go_wp2_with (go_at_call 26; with_reducible refine T8.mono ?_; rintro e w9 ⟨a9, c9, rfl, hM89, hM9, k9⟩; have k7c := conv (sv7b.mods hM89 (fun _ _ f => f)))
                          try simp only [List.getElem_toArray, List.getElem_cons_succ, List.getElem_cons_zero, Act.put, List.setIfInBounds_toArray, List.set_cons_zero, List.set_cons_succ]
                          refine wpAny_ready (rs := [21]) (by kernel_rfl) (by simp) ?_
                          refine AllReady.cons rfl (fun K hK => ?_) ?_
                          · go_simp
                            refine hK _ _ ?_
                            clear hK K
                            try simp only [List.getElem_toArray, List.getElem_cons_succ, List.getElem_cons_zero, Act.put, List.setIfInBounds_toArray, List.set_cons_zero, List.set_cons_succ]
                            refine wpAny_take (i := 22) (v := ?_) rfl (by kernel_rfl) (by kernel_rfl) (by kernel_rfl) (fun _ _ _ h => h) (Or.inl ⟨by rfl, ?_⟩) ?_
                            rotate_left
                            · intro w
                              go_simp
                              try with_reducible rfl
                            simp only [List.getElem_toArray, List.getElem_cons_succ, List.getElem_cons_zero, Act.put, List.setIfInBounds_toArray, List.set_cons_zero, List.set_cons_succ]
                            refine wpAny_take (i := 23) (v := ?_) rfl (by kernel_rfl) (by kernel_rfl) (by kernel_rfl) (fun _ _ _ h => h) (Or.inl ⟨by rfl, ?_⟩) ?_
                            rotate_left
                            · intro w
                              go_simp
                              try with_reducible rfl
                            simp only [List.getElem_toArray, List.getElem_cons_succ, List.getElem_cons_zero, Act.put, List.setIfInBounds_toArray, List.set_cons_zero, List.set_cons_succ]
                            refine wpAny_take (i := 24) (v := ?_) rfl (by kernel_rfl) (by kernel_rfl) (by kernel_rfl) (fun _ _ _ h => h) (Or.inl ⟨by rfl, ?_⟩) ?_
                            rotate_left
                            · intro w
                              go_simp
                              try with_reducible rfl
                            simp only [List.getElem_toArray, List.getElem_cons_succ, List.getElem_cons_zero, Act.put, List.setIfInBounds_toArray, List.set_cons_zero, List.set_cons_succ]
                            refine wpAny_done (by kernel_rfl) ?_ _
                            go_wp2_with fail
                            go_ret
                            exact ⟨rfl, hM9⟩
                          exact AllReady.nil
                        exact AllReady.nil
                      exact AllReady.nil
                    refine AllReady.cons rfl (fun K hK => ?_) ?_
                    · refine step_appg (by first | rfl | kernel_rfl) _ _ ei22 rfl hS7.s.own (hy2.mods hS7.s.mods (fun _ _ f => f)) rfl rfl (bv_one _) hB3 hB4 ?_; intro a8 c8 w8 hA; have T8 := T26b hS7 hA; have sv7b := sv7.mods hA.mods hd7; have k7b := conv sv7b
                      refine hK _ _ ?_
                      clear hK K
                      try simp only [List.getElem_toArray, List.getElem_cons_succ, List.getElem_cons_zero, Act.put, List.setIfInBounds_toArray, List.set_cons_zero, List.set_cons_succ]
                      refine wpAny_ready (rs := [14, 20]) (by kernel_rfl) (by simp) ?_
                      refine AllReady.cons rfl (fun K hK => ?_) ?_
                      · go_simp
                        refine hK _ _ ?_
                        clear hK K
                        try simp only [List.getElem_toArray, List.getElem_cons_succ, List.getElem_cons_zero, Act.put, List.setIfInBounds_toArray, List.set_cons_zero, List.set_cons_succ]
                        refine wpAny_ready (rs := [20]) (by kernel_rfl) (by simp) ?_
                        refine AllReady.cons rfl (fun K hK => ?_) ?_
                        · go_simp
                          go_wp2_with (go_at_call 26; with_reducible refine T8.mono ?_; rintro e w9 ⟨a9, c9, rfl, hM89, hM9, k9⟩; have k7c := conv (sv7b.mods hM89 (fun _ _ f => f)))
                          try simp only [List.getElem_toArray, List.getElem_cons_succ, List.getElem_cons_zero, Act.put, List.setIfInBounds_toArray, List.set_cons_zero, List.set_cons_succ]
                          refine wpAny_ready (rs := [21]) (by kernel_rfl) (by simp) ?_
                          refine AllReady.cons rfl (fun K hK => ?_) ?_
                          · go_simp
                            refine hK _ _ ?_
                            clear hK K
                            try simp only [List.getElem_toArray, List.getElem_cons_succ, List.getElem_cons_zero, Act.put, List.setIfInBounds_toArray, List.set_cons_zero, List.set_cons_succ]
                            refine wpAny_take (i := 22) (v := ?_) rfl (by kernel_rfl) (by kernel_rfl) (by kernel_rfl) (fun _ _ _ h => h) (Or.inl ⟨by rfl, ?_⟩) ?_
                            rotate_left
                            · intro w
                              go_simp
                              try with_reducible rfl
                            simp only [List.getElem_toArray, List.getElem_cons_succ, List.getElem_cons_zero, Act.put, List.setIfInBounds_toArray, List.set_cons_zero, List.set_cons_succ]
                            refine wpAny_take (i := 23) (v := ?_) rfl (by kernel_rfl) (by kernel_rfl) (by kernel_rfl) (fun _ _ _ h => h) (Or.inl ⟨by rfl, ?_⟩) ?_
                            rotate_left
                            · intro w
                              go_simp
                              try with_reducible rfl
                            simp only [List.getElem_toArray, List.getElem_cons_succ, List.getElem_cons_zero, Act.put, List.setIfInBounds_toArray, List.set_cons_zero, List.set_cons_succ]
                            refine wpAny_take (i := 24) (v := ?_) rfl (by kernel_rfl) (by kernel_rfl) (by kernel_rfl) (fun _ _ _ h => h) (Or.inl ⟨by rfl, ?_⟩) ?_
                            rotate_left
                            · intro w
                              go_simp
                              try with_reducible rfl
                            simp only [List.getElem_toArray, List.getElem_cons_succ, List.getElem_cons_zero, Act.put, List.setIfInBounds_toArray, List.set_cons_zero, List.set_cons_succ]
                            refine wpAny_done (by kernel_rfl) ?_ _
                            go_wp2_with fail
                            go_ret
                            exact ⟨rfl, hM9⟩
                          exact AllReady.nil
                        exact AllReady.nil
                      refine AllReady.cons rfl (fun K hK => ?_) ?_
                      · go_simp
                        go_wp2_with (go_at_call 26; with_reducible refine T8.mono ?_; rintro e w9 ⟨a9, c9, rfl, hM89, hM9, k9⟩; have k7c := conv (sv7b.mods hM89 (fun _ _ f => f)))
                        try simp only [List.getElem_toArray, List.getElem_cons_succ, List.getElem_cons_zero, Act.put, List.setIfInBounds_toArray, List.set_cons_zero, List.set_cons_succ]
                        refine wpAny_ready (rs := [14, 21]) (by kernel_rfl) (by simp) ?_
                        refine AllReady.cons rfl (fun K hK => ?_) ?_
                        · go_simp
                          refine hK _ _ ?_
                          clear hK K
                          try simp only [List.getElem_toArray, List.getElem_cons_succ, List.getElem_cons_zero, Act.put, List.setIfInBounds_toArray, List.set_cons_zero, List.set_cons_succ]
                          refine wpAny_ready (rs := [21]) (by kernel_rfl) (by simp) ?_
                          refine AllReady.cons rfl (fun K hK => ?_) ?_
                          · go_simp
                            refine hK _ _ ?_
                            clear hK K
                            try simp only [List.getElem_toArray, List.getElem_cons_succ, List.getElem_cons_zero, Act.put, List.setIfInBounds_toArray, List.set_cons_zero, List.set_cons_succ]
                            refine wpAny_take (i := 22) (v := ?_) rfl (by kernel_rfl) (by kernel_rfl) (by kernel_rfl) (fun _ _ _ h => h) (Or.inl ⟨by rfl, ?_⟩) ?_
                            rotate_left
                            · intro w
                              go_simp
                              try with_reducible rfl
                            simp only [List.getElem_toArray, List.getElem_cons_succ, List.getElem_cons_zero, Act.put, List.setIfInBounds_toArray, List.set_cons_zero, List.set_cons_succ]
                            refine wpAny_take (i := 23) (v := ?_) rfl (by kernel_rfl) (by kernel_rfl) (by kernel_rfl) (fun _ _ _ h => h) (Or.inl ⟨by rfl, ?_⟩) ?_
                            rotate_left
                            · intro w
                              go_simp
                              try with_reducible rfl
                            simp only [List.getElem_toArray, List.getElem_cons_succ, List.getElem_cons_zero, Act.put, List.setIfInBounds_toArray, List.set_cons_zero, List.set_cons_succ]
                            refine wpAny_take (i := 24) (v := ?_) rfl (by kernel_rfl) (by kernel_rfl) (by kernel_rfl) (fun _ _ _ h => h) (Or.inl ⟨by rfl, ?_⟩) ?_
                            rotate_left
                            · intro w
                              go_simp
                              try with_reducible rfl
                            simp only [List.getElem_toArray, List.getElem_cons_succ, List.getElem_cons_zero, Act.put, List.setIfInBounds_toArray, List.set_cons_zero, List.set_cons_succ]
                            refine wpAny_done (by kernel_rfl) ?_ _
                            go_wp2_with fail
                            go_ret
                            exact ⟨rfl, hM9⟩
                          exact AllReady.nil
                        refine AllReady.cons rfl (fun K hK => ?_) ?_
                        · go_simp
                          refine hK _ _ ?_
                          clear hK K
                          try simp only [List.getElem_toArray, List.getElem_cons_succ, List.getElem_cons_zero, Act.put, List.setIfInBounds_toArray, List.set_cons_zero, List.set_cons_succ]
                          refine wpAny_ready (rs := [14]) (by kernel_rfl) (by simp) ?_
                          refine AllReady.cons rfl (fun K hK => ?_) ?_
                          · go_simp
                            refine hK _ _ ?_
                            clear hK K
                            try simp only [List.getElem_toArray, List.getElem_cons_succ, List.getElem_cons_zero, Act.put, List.setIfInBounds_toArray, List.set_cons_zero, List.set_cons_succ]
                            refine wpAny_take (i := 22) (v := ?_) rfl (by kernel_rfl) (by kernel_rfl) (by kernel_rfl) (fun _ _ _ h => h) (Or.inl ⟨by rfl, ?_⟩) ?_
                            rotate_left
                            · intro w
                              go_simp
                              try with_reducible rfl
                            simp only [List.getElem_toArray, List.getElem_cons_succ, List.getElem_cons_zero, Act.put, List.setIfInBounds_toArray, List.set_cons_zero, List.set_cons_succ]
                            refine wpAny_take (i := 23) (v := ?_) rfl (by kernel_rfl) (by kernel_rfl) (by kernel_rfl) (fun _ _ _ h => h) (Or.inl ⟨by rfl, ?_⟩) ?_
                            rotate_left
                            · intro w
                              go_simp
                              try with_reducible rfl
                            simp only [List.getElem_toArray, List.getElem_cons_succ, List.getElem_cons_zero, Act.put, List.setIfInBounds_toArray, List.set_cons_zero, List.set_cons_succ]
                            refine wpAny_take (i := 24) (v := ?_) rfl (by kernel_rfl) (by kernel_rfl) (by kernel_rfl) (fun _ _ _ h => h) (Or.inl ⟨by rfl, ?_⟩) ?_
                            rotate_left
                            · intro w
                              go_simp
                              try with_reducible rfl
                            simp only [List.getElem_toArray, List.getElem_cons_succ, List.getElem_cons_zero, Act.put, List.setIfInBounds_toArray, List.set_cons_zero, List.set_cons_succ]
                            refine wpAny_done (by kernel_rfl) ?_ _
                            go_wp2_with fail
                            go_ret
                            exact ⟨rfl, hM9⟩
                          exact AllReady.nil
                        exact AllReady.nil
                      exact AllReady.nil
                    exact AllReady.nil
                  exact AllReady.nil
                exact AllReady.nil
              exact AllReady.nil
            refine AllReady.cons rfl (fun K hK => ?_) ?_
            · go_simp
              refine hK _ _ ?_
              clear hK K
              try simp only [List.getElem_toArray, List.getElem_cons_succ, List.getElem_cons_zero, Act.put, List.setIfInBounds_toArray, List.set_cons_zero, List.set_cons_succ]
              refine wpAny_ready (rs := [4]) (by kernel_rfl) (by simp) ?_
              refine AllReady.cons rfl (fun K hK => ?_) ?_
              · go_simp
                refine hK _ _ ?_
                clear hK K
                try simp only [List.getElem_toArray, List.getElem_cons_succ, List.getElem_cons_zero, Act.put, List.setIfInBounds_toArray, List.set_cons_zero, List.set_cons_succ]
                refine wpAny_take (i := 9) (v := ?_) rfl (by kernel_rfl) (by kernel_rfl) (by kernel_rfl) (fun _ _ _ h => h) (Or.inl ⟨by rfl, ?_⟩) ?_
                rotate_left
                · intro w
                  go_simp
                  try with_reducible rfl
                simp only [List.getElem_toArray, List.getElem_cons_succ, List.getElem_cons_zero, Act.put, List.setIfInBounds_toArray, List.set_cons_zero, List.set_cons_succ]
                refine wpAny_take (i := 10) (v := ?_) rfl (by kernel_rfl) (by kernel_rfl) (by kernel_rfl) (fun _ _ _ h => h) (Or.inl ⟨by rfl, ?_⟩) ?_
                rotate_left
                · intro w
                  go_simp
                  try with_reducible rfl
                simp only [List.getElem_toArray, List.getElem_cons_succ, List.getElem_cons_zero, Act.put, List.setIfInBounds_toArray, List.set_cons_zero, List.set_cons_succ]
                refine wpAny_take (i := 11) (v := ?_) rfl (by kernel_rfl) (by kernel_rfl) (by kernel_rfl) (fun _ _ _ h => h) (Or.inl ⟨by rfl, ?_⟩) ?_
                rotate_left
                · intro w
                  go_simp
                  try with_reducible rfl
                simp only [List.getElem_toArray, List.getElem_cons_succ, List.getElem_cons_zero, Act.put, List.setIfInBounds_toArray, List.set_cons_zero, List.set_cons_succ]
                refine wpAny_take (i := 12) (v := ?_) rfl (by kernel_rfl) (by kernel_rfl) (by kernel_rfl) (fun _ _ _ h => h) (Or.inl ⟨by rfl, ?_⟩) ?_
                rotate_left
                · intro w
                  go_simp
                  try with_reducible rfl
                simp only [List.getElem_toArray, List.getElem_cons_succ, List.getElem_cons_zero, Act.put, List.setIfInBounds_toArray, List.set_cons_zero, List.set_cons_succ]
                refine wpAny_take (i := 15) (v := ?_) rfl (by kernel_rfl) (by kernel_rfl) (by kernel_rfl) (fun _ _ _ h => h) (Or.inl ⟨by rfl, ?_⟩) ?_
                rotate_left
                · intro w
                  go_simp
                  try with_reducible rfl
                simp only [List.getElem_toArray, List.getElem_cons_succ, List.getElem_cons_zero, Act.put, List.setIfInBounds_toArray, List.set_cons_zero, List.set_cons_succ]
                refine wpAny_take (i := 16) (v := ?_) rfl (by kernel_rfl) (by kernel_rfl) (by kernel_rfl) (fun _ _ _ h => h) (Or.inl ⟨by rfl, ?_⟩) ?_
                rotate_left
                · intro w
                  go_simp
                  try with_reducible rfl
                simp only [List.getElem_toArray, List.getElem_cons_succ, List.getElem_cons_zero, Act.put, List.setIfInBounds_toArray, List.set_cons_zero, List.set_cons_succ]
                refine wpAny_take (i := 17) (v := ?_) rfl (by kernel_rfl) (by kernel_rfl) (by kernel_rfl) (fun _ _ _ h => h) (Or.inl ⟨by rfl, ?_⟩) ?_
                rotate_left
                · intro w
                  go_simp
                  try with_reducible rfl
                simp only [List.getElem_toArray, List.getElem_cons_succ, List.getElem_cons_zero, Act.put, List.setIfInBounds_toArray, List.set_cons_zero, List.set_cons_succ]
                refine wpAny_ready (rs := [13]) (by kernel_rfl) (by simp) ?_
                refine AllReady.cons rfl (fun K hK => ?_) ?_
                · go_simp
                  go_wp2_with (go_at_call 32; with_reducible refine T7.mono ?_; rintro e w7 ⟨a7, c7, rfl, hS7, hd7, sv7⟩; have k7 := conv sv7)
                  try simp only [List.getElem_toArray, List.getElem_cons_succ, List.getElem_cons_zero, Act.put, List.setIfInBounds_toArray, List.set_cons_zero, List.set_cons_succ]
                  refine wpAny_ready (rs := [14, 18]) (by kernel_rfl) (by simp) ?_
                  refine AllReady.cons rfl (fun K hK => ?_) ?_
                  · go_simp
                    refine hK _ _ ?_
                    clear hK K
                    try simp only [List.getElem_toArray, List.getElem_cons_succ, List.getElem_cons_zero, Act.put, List.setIfInBounds_toArray, List.set_cons_zero, List.set_cons_succ]
                    refine wpAny_ready (rs := [18]) (by kernel_rfl) (by simp) ?_
                    refine AllReady.cons rfl (fun K hK => ?_) ?_
                    · go_simp
                      go_wp2_with (go_at_call 24; with_reducible refine (T24 _).mono ?_; rintro e w' ⟨rfl, rfl⟩)
                      try simp only [List.getElem_toArray, List.getElem_cons_succ, List.getElem_cons_zero, Act.put, List.setIfInBounds_toArray, List.set_cons_zero, List.set_cons_succ]
                      refine wpAny_ready (rs := [19]) (by kernel_rfl) (by simp) ?_
                      refine AllReady.cons rfl (fun K hK => ?_) ?_
                      · refine step_appg (by first | rfl | kernel_rfl) _ _ ei22 rfl hS7.s.own (hy2.mods hS7.s.mods (fun _ _ f => f)) rfl rfl (bv_one _) hB3 hB4 ?_; intro a8 c8 w8 hA; have T8 := T26b hS7 hA; have sv7b := sv7.mods hA.mods hd7; have k7b := conv sv7b
                        refine hK _ _ ?_
                        clear hK K
                        try simp only [List.getElem_toArray, List.getElem_cons_succ, List.getElem_cons_zero, Act.put, List.setIfInBounds_toArray, List.set_cons_zero, List.set_cons_succ]
                        refine wpAny_ready (rs := [20]) (by kernel_rfl) (by simp) ?_
                        refine AllReady.cons rfl (fun K hK => ?_) ?_
                        · go_simp
                          go_wp2_with (go_at_call 26; with_reducible refine T8.mono ?_; rintro e w9 ⟨a9, c9, rfl, hM89, hM9, k9⟩; have k7c := conv (sv7b.mods hM89 (fun _ _ f => f)))
                          try simp only [List.getElem_toArray, List.getElem_cons_succ, List.getElem_cons_zero, Act.put, List.setIfInBounds_toArray, List.set_cons_zero, List.set_cons_succ]
                          refine wpAny_ready (rs := [21]) (by kernel_rfl) (by simp) ?_
                          refine AllReady.cons rfl (fun K hK => ?_) ?_
                          · go_simp
                            refine hK _ _ ?_
                            clear hK K
                            try simp only [List.getElem_toArray, List.getElem_cons_succ, List.getElem_cons_zero, Act.put, List.setIfInBounds_toArray, List.set_cons_zero, List.set_cons_succ]
                            refine wpAny_take (i := 22) (v := ?_) rfl (by kernel_rfl) (by kernel_rfl) (by kernel_rfl) (fun _ _ _ h => h) (Or.inl ⟨by rfl, ?_⟩) ?_
                            rotate_left
                            · intro w
                              go_simp
                              try with_reducible rfl
                            simp only [List.getElem_toArray, List.getElem_cons_succ, List.getElem_cons_zero, Act.put, List.setIfInBounds_toArray, List.set_cons_zero, List.set_cons_succ]
                            refine wpAny_take (i := 23) (v := ?_) rfl (by kernel_rfl) (by kernel_rfl) (by kernel_rfl) (fun _ _ _ h => h) (Or.inl ⟨by rfl, ?_⟩) ?_
                            rotate_left
                            · intro w
                              go_simp
                              try with_reducible rfl
                            simp only [List.getElem_toArray, List.getElem_cons_succ, List.getElem_cons_zero, Act.put, List.setIfInBounds_toArray, List.set_cons_zero, List.set_cons_succ]
                            refine wpAny_take (i := 24) (v := ?_) rfl (by kernel_rfl) (by kernel_rfl) (by kernel_rfl) (fun _ _ _ h => h) (Or.inl ⟨by rfl, ?_⟩) ?_
                            rotate_left
                            · intro w
                              go_simp
                              try with_reducible rfl
                            simp only [List.getElem_toArray, List.getElem_cons_succ, List.getElem_cons_zero, Act.put, List.setIfInBounds_toArray, List.set_cons_zero, List.set_cons_succ]
                            refine wpAny_done (by kernel_rfl) ?_ _
                            go_wp2_with fail
                            go_ret
                            exact ⟨rfl, hM9⟩
                          exact AllReady.nil
                        exact AllReady.nil
                      exact AllReady.nil
                    exact AllReady.nil
                  refine AllReady.cons rfl (fun K hK => ?_) ?_
                  · go_simp
                    go_wp2_with (go_at_call 24; with_reducible refine (T24 _).mono ?_; rintro e w' ⟨rfl, rfl⟩)
                    try simp only [List.getElem_toArray, List.getElem_cons_succ, List.getElem_cons_zero, Act.put, List.setIfInBounds_toArray, List.set_cons_zero, List.set_cons_succ]
                    refine wpAny_ready (rs := [14, 19]) (by kernel_rfl) (by simp) ?_
                    refine AllReady.cons rfl (fun K hK => ?_) ?_
                    · go_simp
                      refine hK _ _ ?_
                      clear hK K
                      try simp only [List.getElem_toArray, List.getElem_cons_succ, List.getElem_cons_zero, Act.put, List.setIfInBounds_toArray, List.set_cons_zero, List.set_cons_succ]
                      refine wpAny_ready (rs := [19]) (by kernel_rfl) (by simp) ?_
                      refine AllReady.cons rfl (fun K hK => ?_) ?_
                      · refine step_appg (by first | rfl | kernel_rfl) _ _ ei22 rfl hS7.s.own (hy2.mods hS7.s.mods (fun _ _ f => f)) rfl rfl (bv_one _) hB3 hB4 ?_; intro a8 c8 w8 hA; have T8 := T26b hS7 hA; have sv7b := sv7.mods hA.mods hd7; have k7b := conv sv7b
                        refine hK _ _ ?_
                        clear hK K
                        try simp only [List.getElem_toArray, List.getElem_cons_succ, List.getElem_cons_zero, Act.put, List.setIfInBounds_toArray, List.set_cons_zero, List.set_cons_succ]
                        refine wpAny_ready (rs := [20]) (by kernel_rfl) (by simp) ?_
                        refine AllReady.cons rfl (fun K hK => ?_) ?_
                        · go_simp
                          go_wp2_with (go_at_call 26; with_reducible refine T8.mono ?_; rintro e w9 ⟨a9, c9, rfl, hM89, hM9, k9⟩; have k7c := conv (sv7b.mods hM89 (fun _ _ f => f)))
                          try simp only [List.getElem_toArray, List.getElem_cons_succ, List.getElem_cons_zero, Act.put, List.setIfInBounds_toArray, List.set_cons_zero, List.set_cons_succ]
                          refine wpAny_ready (rs := [21]) (by kernel_rfl) (by simp) ?_
                          refine AllReady.cons rfl (fun K hK => ?_) ?_
                          · go_simp
                            refine hK _ _ ?_
                            clear hK K
                            try simp only [List.getElem_toArray, List.getElem_cons_succ, List.getElem_cons_zero, Act.put, List.setIfInBounds_toArray, List.set_cons_zero, List.set_cons_succ]
                            refine wpAny_take (i := 22) (v := ?_) rfl (by kernel_rfl) (by kernel_rfl) (by kernel_rfl) (fun _ _ _ h => h) (Or.inl ⟨by rfl, ?_⟩) ?_
                            rotate_left
                            · intro w
                              go_simp
                              try with_reducible rfl
                            simp only [List.getElem_toArray, List.getElem_cons_succ, List.getElem_cons_zero, Act.put, List.setIfInBounds_toArray, List.set_cons_zero, List.set_cons_succ]
                            refine wpAny_take (i := 23) (v := ?_) rfl (by kernel_rfl) (by kernel_rfl) (by kernel_rfl) (fun _ _ _ h => h) (Or.inl ⟨by rfl, ?_⟩) ?_
                            rotate_left
                            · intro w
                              go_simp
                              try with_reducible rfl
                            simp only [List.getElem_toArray, List.getElem_cons_succ, List.getElem_cons_zero, Act.put, List.setIfInBounds_toArray, List.set_cons_zero, List.set_cons_succ]
                            refine wpAny_take (i := 24) (v := ?_) rfl (by kernel_rfl) (by kernel_rfl) (by kernel_rfl) (fun _ _ _ h => h) (Or.inl ⟨by rfl, ?_⟩) ?_
                            rotate_left
                            · intro w
                              go_simp
                              try with_reducible rfl
                            simp only [List.getElem_toArray, List.getElem_cons_succ, List.getElem_cons_zero, Act.put, List.setIfInBounds_toArray, List.set_cons_zero, List.set_cons_succ]
                            refine wpAny_done (by kernel_rfl) ?_ _
                            go_wp2_with fail
                            go_ret
                            exact ⟨rfl, hM9⟩
                          exact AllReady.nil
                        exact AllReady.nil
                      exact AllReady.nil
                    refine AllReady.cons rfl (fun K hK => ?_) ?_
                    · refine step_appg (by first | rfl | kernel_rfl) _ _ ei22 rfl hS7.s.own (hy2.mods hS7.s.mods (fun _ _ f => f)) rfl rfl (bv_one _) hB3 hB4 ?_; intro a8 c8 w8 hA; have T8 := T26b hS7 hA; have sv7b := sv7.mods hA.mods hd7; have k7b := conv sv7b
                      refine hK _ _ ?_
                      clear hK K
                      try simp only [List.getElem_toArray, List.getElem_cons_succ, List.getElem_cons_zero, Act.put, List.setIfInBounds_toArray, List.set_cons_zero, List.set_cons_succ]
                      refine wpAny_ready (rs := [14, 20]) (by kernel_rfl) (by simp) ?_
                      refine AllReady.cons rfl (fun K hK => ?_) ?_
                      · go_simp
                        refine hK _ _ ?_
                        clear hK K
                        try simp only [List.getElem_toArray, List.getElem_cons_succ, List.getElem_cons_zero, Act.put, List.setIfInBounds_toArray, List.set_cons_zero, List.set_cons_succ]
                        refine wpAny_ready (rs := [20]) (by kernel_rfl) (by simp) ?_
                        refine AllReady.cons rfl (fun K hK => ?_) ?_
                        · go_simp
                          go_wp2_with (go_at_call 26; with_reducible refine T8.mono ?_; rintro e w9 ⟨a9, c9, rfl, hM89, hM9, k9⟩; have k7c := conv (sv7b.mods hM89 (fun _ _ f => f)))
                          try simp only [List.getElem_toArray, List.getElem_cons_succ, List.getElem_cons_zero, Act.put, List.setIfInBounds_toArray, List.set_cons_zero, List.set_cons_succ]
                          refine wpAny_ready (rs := [21]) (by kernel_rfl) (by simp) ?_
                          refine AllReady.cons rfl (fun K hK => ?_) ?_
                          · go_simp
                            refine hK _ _ ?_
                            clear hK K
                            try simp only [List.getElem_toArray, List.getElem_cons_succ, List.getElem_cons_zero, Act.put, List.setIfInBounds_toArray, List.set_cons_zero, List.set_cons_succ]
                            refine wpAny_take (i := 22) (v := ?_) rfl (by kernel_rfl) (by kernel_rfl) (by kernel_rfl) (fun _ _ _ h => h) (Or.inl ⟨by rfl, ?_⟩) ?_
                            rotate_left
                            · intro w
                              go_simp
                              try with_reducible rfl
                            simp only [List.getElem_toArray, List.getElem_cons_succ, List.getElem_cons_zero, Act.put, List.setIfInBounds_toArray, List.set_cons_zero, List.set_cons_succ]
                            refine wpAny_take (i := 23) (v := ?_) rfl (by kernel_rfl) (by kernel_rfl) (by kernel_rfl) (fun _ _ _ h => h) (Or.inl ⟨by rfl, ?_⟩) ?_
                            rotate_left
                            · intro w
                              go_simp
                              try with_reducible rfl
                            simp only [List.getElem_toArray, List.getElem_cons_succ, List.getElem_cons_zero, Act.put, List.setIfInBounds_toArray, List.set_cons_zero, List.set_cons_succ]
                            refine wpAny_take (i := 24) (v := ?_) rfl (by kernel_rfl) (by kernel_rfl) (by kernel_rfl) (fun _ _ _ h => h) (Or.inl ⟨by rfl, ?_⟩) ?_
                            rotate_left
                            · intro w
                              go_simp
                              try with_reducible rfl
                            simp only [List.getElem_toArray, List.getElem_cons_succ, List.getElem_cons_zero, Act.put, List.setIfInBounds_toArray, List.set_cons_zero, List.set_cons_succ]
                            refine wpAny_done (by kernel_rfl) ?_ _
                            go_wp2_with fail
                            go_ret
                            exact ⟨rfl, hM9⟩
                          exact AllReady.nil
                        exact AllReady.nil
                      refine AllReady.cons rfl (fun K hK => ?_) ?_
                      · go_simp
                        go_wp2_with (go_at_call 26; with_reducible refine T8.mono ?_; rintro e w9 ⟨a9, c9, rfl, hM89, hM9, k9⟩; have k7c := conv (sv7b.mods hM89 (fun _ _ f => f)))
                        try simp only [List.getElem_toArray, List.getElem_cons_succ, List.getElem_cons_zero, Act.put, List.setIfInBounds_toArray, List.set_cons_zero, List.set_cons_succ]
                        refine wpAny_ready (rs := [14, 21]) (by kernel_rfl) (by simp) ?_
                        refine AllReady.cons rfl (fun K hK => ?_) ?_
                        · go_simp
                          refine hK _ _ ?_
                          clear hK K
                          try simp only [List.getElem_toArray, List.getElem_cons_succ, List.getElem_cons_zero, Act.put, List.setIfInBounds_toArray, List.set_cons_zero, List.set_cons_succ]
                          refine wpAny_ready (rs := [21]) (by kernel_rfl) (by simp) ?_
                          refine AllReady.cons rfl (fun K hK => ?_) ?_
                          · go_simp
                            refine hK _ _ ?_
                            clear hK K
                            try simp only [List.getElem_toArray, List.getElem_cons_succ, List.getElem_cons_zero, Act.put, List.setIfInBounds_toArray, List.set_cons_zero, List.set_cons_succ]
                            refine wpAny_take (i := 22) (v := ?_) rfl (by kernel_rfl) (by kernel_rfl) (by kernel_rfl) (fun _ _ _ h => h) (Or.inl ⟨by rfl, ?_⟩) ?_
                            rotate_left
                            · intro w
                              go_simp
                              try with_reducible rfl
                            simp only [List.getElem_toArray, List.getElem_cons_succ, List.getElem_cons_zero, Act.put, List.setIfInBounds_toArray, List.set_cons_zero, List.set_cons_succ]
                            refine wpAny_take (i := 23) (v := ?_) rfl (by kernel_rfl) (by kernel_rfl) (by kernel_rfl) (fun _ _ _ h => h) (Or.inl ⟨by rfl, ?_⟩) ?_
                            rotate_left
                            · intro w
                              go_simp
                              try with_reducible rfl
                            simp only [List.getElem_toArray, List.getElem_cons_succ, List.getElem_cons_zero, Act.put, List.setIfInBounds_toArray, List.set_cons_zero, List.set_cons_succ]
                            refine wpAny_take (i := 24) (v := ?_) rfl (by kernel_rfl) (by kernel_rfl) (by kernel_rfl) (fun _ _ _ h => h) (Or.inl ⟨by rfl, ?_⟩) ?_
                            rotate_left
                            · intro w
                              go_simp
                              try with_reducible rfl
                            simp only [List.getElem_toArray, List.getElem_cons_succ, List.getElem_cons_zero, Act.put, List.setIfInBounds_toArray, List.set_cons_zero, List.set_cons_succ]
                            refine wpAny_done (by kernel_rfl) ?_ _
                            go_wp2_with fail
                            go_ret
                            exact ⟨rfl, hM9⟩
                          exact AllReady.nil
                        refine AllReady.cons rfl (fun K hK => ?_) ?_
                        · go_simp
                          refine hK _ _ ?_
                          clear hK K
                          try simp only [List.getElem_toArray, List.getElem_cons_succ, List.getElem_cons_zero, Act.put, List.setIfInBounds_toArray, List.set_cons_zero, List.set_cons_succ]
                          refine wpAny_ready (rs := [14]) (by kernel_rfl) (by simp) ?_
                          refine AllReady.cons rfl (fun K hK => ?_) ?_
                          · go_simp
                            refine hK _ _ ?_
                            clear hK K
                            try simp only [List.getElem_toArray, List.getElem_cons_succ, List.getElem_cons_zero, Act.put, List.setIfInBounds_toArray, List.set_cons_zero, List.set_cons_succ]
                            refine wpAny_take (i := 22) (v := ?_) rfl (by kernel_rfl) (by kernel_rfl) (by kernel_rfl) (fun _ _ _ h => h) (Or.inl ⟨by rfl, ?_⟩) ?_
                            rotate_left
                            · intro w
                              go_simp
                              try with_reducible rfl
                            simp only [List.getElem_toArray, List.getElem_cons_succ, List.getElem_cons_zero, Act.put, List.setIfInBounds_toArray, List.set_cons_zero, List.set_cons_succ]
                            refine wpAny_take (i := 23) (v := ?_) rfl (by kernel_rfl) (by kernel_rfl) (by kernel_rfl) (fun _ _ _ h => h) (Or.inl ⟨by rfl, ?_⟩) ?_
                            rotate_left
                            · intro w
                              go_simp
                              try with_reducible rfl
                            simp only [List.getElem_toArray, List.getElem_cons_succ, List.getElem_cons_zero, Act.put, List.setIfInBounds_toArray, List.set_cons_zero, List.set_cons_succ]
                            refine wpAny_take (i := 24) (v := ?_) rfl (by kernel_rfl) (by kernel_rfl) (by kernel_rfl) (fun _ _ _ h => h) (Or.inl ⟨by rfl, ?_⟩) ?_
                            rotate_left
                            · intro w
                              go_simp
                              try with_reducible rfl
                            simp only [List.getElem_toArray, List.getElem_cons_succ, List.getElem_cons_zero, Act.put, List.setIfInBounds_toArray, List.set_cons_zero, List.set_cons_succ]
                            refine wpAny_done (by kernel_rfl) ?_ _
                            go_wp2_with fail
                            go_ret
                            exact ⟨rfl, hM9⟩
                          exact AllReady.nil
                        exact AllReady.nil
                      exact AllReady.nil
                    exact AllReady.nil
                  exact AllReady.nil
                exact AllReady.nil
              exact AllReady.nil
            exact AllReady.nil
          exact AllReady.nil
        exact AllReady.nil

theorem f4 (w : World) (hg : GK w) (k : Int) (a : Option Addr) (n c : Nat) (hp : Ps w a n c) (y : Option Addr) (my cy : Nat) (lm : List Int) (hy : Sv w 5 1 y my cy (bv lm)) (hyB : Byt lm) :
    Calls Tryd.prog 4 #[.int .i64 k, .slice a n c, .slice y my cy] w fun e w' => e = .returned (.bool true) ∧ Mods Nix w w' := by
  rcases kd_or k with hk | hk
  · exact f4k w hg k hk a n c hp y my cy lm hy hyB
  · exact f4n w hg k hk a n c y my cy
end Go.Proofs.YtladijfaeieidaaDoor
