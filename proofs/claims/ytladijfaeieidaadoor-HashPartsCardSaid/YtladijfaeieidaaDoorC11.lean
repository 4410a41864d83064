/- Contracts: Of. Conditions: a kind from 1 to 5; a length that an append may come to. -/
import Derived.Test.YtladijfaeieidaaDoorC10
namespace Go.Proofs.YtladijfaeieidaaDoor
open Go.RowKit

/-- A slice of slices of bytes. -/
structure Bs (w : World) (a : Option Addr) (n c : Nat) (ps : List (List Int)) : Prop where
  len : ps.length = n
  ex : ∃ els : List Value, Sv w 22 1 a n c els ∧ ∀ (i : Nat) (l : List Int), ps[i]? = some l → ∃ (x : Option Addr) (nx cx : Nat), els[i]? = some (.slice x nx cx) ∧ Sv w 5 1 x nx cx (bv l) ∧ Byt l
theorem Bs.mods {w w' : World} {a : Option Addr} {n c : Nat} {ps : List (List Int)} (h : Bs w a n c ps) (hm : Mods Nix w w') : Bs w' a n c ps := by
  obtain ⟨els, h1, h2⟩ := h.ex
  refine ⟨h.len, els, h1.mods hm (fun _ _ f => f), fun i l hi => ?_⟩
  obtain ⟨x, nx, cx, h3, h4, h5⟩ := h2 i l hi
  exact ⟨x, nx, cx, h3, h4.mods hm (fun _ _ f => f), h5⟩
theorem Bs.get {w : World} {a : Option Addr} {n c : Nat} {ps : List (List Int)} (h : Bs w a n c ps) (t : Nat) (ht : t < n) :
    ∃ g o x nx cx, a = some ⟨g, o, none⟩ ∧ w.cell? ⟨g, o + t, none⟩ = some (.slice x nx cx) ∧ Sv w 5 1 x nx cx (bv (ps.getD t [])) ∧ Byt (ps.getD t []) ∧ n ≤ c ∧ c ≤ maxLen := by
  obtain ⟨els, h1, h2⟩ := h.ex
  obtain ⟨x, nx, cx, h3, h4, h5⟩ := h2 t (ps.getD t []) (by rw [List.getD, List.getElem?_eq_getElem (by rw [h.len]; exact ht)]; rfl)
  obtain ⟨g, o, rfl⟩ := h1.addr (by omega)
  exact ⟨g, o, x, nx, cx, rfl, h1.cell h3, h4, h5, h1.le, h1.cap⟩
/-- A hash object all of whose blocks lie at or behind B. -/
structure HN (B : Nat) (w : World) (b : Nat) (a : Option Addr) (k : Int) (m : List Int) : Prop where
  ho : HO w b a k m
  fresh : B ≤ b
  freshA : New B a
theorem flatten_take (ps : List (List Int)) (t : Nat) (h : t < ps.length) : (ps.take (t + 1)).flatten = (ps.take t).flatten ++ ps.getD t [] := by
  have e : ps.take (t + 1) = ps.take t ++ [ps.getD t []] := by rw [List.take_add_one]; simp [h, List.getD]
  rw [e, List.flatten_append]; simp
theorem flatten_le (ps : List (List Int)) (t : Nat) : (ps.take t).flatten.length ≤ ps.flatten.length := by
  conv => rhs; rw [← List.take_append_drop t ps]
  rw [List.flatten_append, List.length_append]; omega
/-- A write to a hash object of the call's own. -/
theorem f34n (B : Nat) (w0 w : World) (hB : B = w0.heap.size) (hM : Mods Nix w0 w) (b : Nat) (a : Option Addr) (k : Int) (m : List Int) (h : HN B w b a k m) (x : Option Addr) (nx cx : Nat) (l : List Int) (hx : Sv w 5 1 x nx cx (bv l)) (hb : Byt l) (hl : Lim (m ++ l).length) (hxb : ¬ In x b) (hg : GK w0) :
    Calls Tryd.prog 34 #[.pointer (some ⟨b, 0, none⟩), .slice x nx cx] w fun e w' => e = .returned (.tuple #[]) ∧ ∃ a', HN B w' b a' k (m ++ l) ∧ Mods Nix w0 w' ∧ Mods (fun i => i = b ∨ In a i) w w' ∧ ∀ i, In a' i → In a i ∨ w.heap.size ≤ i := by
  refine (f34 w b a k m h.ho x nx cx l hx hb hl hxb (hg.mods hM (fun f => f))).mono ?_
  rintro e w' ⟨rfl, a', hW⟩
  refine ⟨rfl, a', ⟨hW.ho, h.fresh, fun ad e => ?_⟩, hM.trans' hW.mods (fun i hi hi2 => ?_), hW.mods, hW.news⟩
  · rcases hW.news ad.block ⟨ad, e, rfl⟩ with ⟨ad2, e2, e3⟩ | h2
    · have := h.freshA ad2 e2; omega
    · have := hM.size; omega
  · rcases hi2 with rfl | ⟨ad2, e2, e3⟩
    · have := h.fresh; omega
    · have := h.freshA ad2 e2; omega

set_option maxHeartbeats 1000000 in
theorem f25 (w : World) (k : Int) (hk : Kd k) (a : Option Addr) (n c : Nat) (ps : List (List Int)) (hps : Bs w a n c ps) (hl : Lim (ps.flatten.length + 300)) (hg : GK w) :
    Calls Tryd.prog 25 #[.int .i64 k, .slice a n c] w fun e w' => ∃ a' c', e = .returned (.slice a' (hsz k) c') ∧ SumOut w w' a' (hsz k) c' (hash k ps.flatten) := by
  have hlen := Eqn.mk hps.len
  go_enter Tryd.func25, Tryd.ntmps25
  go_wp2_with (go_at_call 31; refine (f31 _ k hk).mono ?_; rintro e w' ⟨b, rfl, hN⟩)
  go_loopw [12] (fun i wr => ∃ (t : Nat) (a' : Option Addr), t ≤ n ∧ i = .int .i64 t ∧ HN w.heap.size wr b a' k (ps.take t).flatten ∧ Mods Nix w wr) (fun i _ => n - (intOf i).toNat)
  case atStart => exact ⟨0, none, Nat.zero_le _, rfl, ⟨by simpa using hN.ho, hN.fresh, New.none _⟩, hN.mods⟩
  case round =>
    obtain ⟨t, a', ht, rfl, hH, hM⟩ := hrel
    by_cases h8 : t < n
    · obtain ⟨g, o, x, nx, cx, rfl, hx, hsx, hbx, hnc, hcm⟩ := hps.get t h8
      have hc := hM.cell hx (fun f => f)
      have Hwk : Eqn (wrap64 ((t : Int) + 1)) ((t + 1 : Nat) : Int) := ⟨by simp only [maxLen] at hcm; unfold wrap64; omega⟩
      clear hcm
      have hnx : ¬ In x b := fun ⟨ad, e, hb⟩ => by have := hsx.lt ad e; have := hH.fresh; omega
      have hlx : Lim ((ps.take t).flatten ++ ps.getD t []).length := hl.of (by rw [← flatten_take ps t (by rw [hlen.out]; exact h8)]; have := flatten_le ps (t + 1); omega)
      go_wp2_with (go_at_call 34; refine (f34n w.heap.size w _ rfl hM b a' k _ hH x nx cx _ (hsx.mods hM (fun _ _ f => f)) hbx hlx hnx hg).mono ?_; rintro e w9 ⟨rfl, a9, hH9, hM9, -⟩)
      go_roundw
      case measure => rw [Hwk.out]; exact down_one h8
      case rel =>
        refine ⟨t + 1, a9, by omega, by rw [Hwk.out], ?_, hM9⟩
        rw [flatten_take ps t (by rw [hlen.out]; exact h8)]
        exact hH9
    · obtain rfl : t = n := by omega
      have hfl : (ps.take t).flatten = ps.flatten := by rw [List.take_of_length_le (by rw [hlen.out]; exact Nat.le_refl _)]
      rw [hfl] at hH
      go_wp2_with (go_at_call 32; refine (f32 _ b a' k _ hH.ho hl (hg.mods hM (fun f => f))).mono ?_; rintro e w9 ⟨a9, c9, rfl, hS⟩)
      go_ret
      exact ⟨a9, c9, rfl, hS.own, hS.fresh.mono hM.size, hM.trans' hS.mods (fun _ _ f => f)⟩
end Go.Proofs.YtladijfaeieidaaDoor
