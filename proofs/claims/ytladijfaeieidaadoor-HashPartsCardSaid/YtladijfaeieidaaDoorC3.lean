/- Contracts: bytes.Clone; numbers put behind bytes. Conditions: lengths that an append may come to. -/
import Derived.Test.YtladijfaeieidaaDoorS
namespace Go.Proofs.YtladijfaeieidaaDoor
open Go.RowKit

set_option maxHeartbeats 1000000 in
theorem f93 {a : Option Addr} {n c : Nat} {l : List Int} {w : World} (h : Sv w 5 1 a n c (bv l)) (hn : Lim n) :
    Calls Tryd.prog 93 #[.slice a n c] w fun e w' => ∃ a' c', e = .returned (.slice a' n c') ∧ Own w' 5 1 a' n c' (bv l) ∧ New w.heap.size a' ∧ Mods Nix w w' ∧ (a' = none ↔ a = none) := by
  have he := fun (w : World) (a : Option Addr) (n c : Nat) => Lib.run_eql_slice_nil (P := Tryd.prog) w 22 5 a n c 0 0 Tryd.underlying22
  cases a with
  | none =>
    have hc := h.nil rfl
    subst hc
    obtain rfl : n = 0 := by have := h.le; omega
    have hl : l = [] := by have := h.len; simpa [bv] using this
    go_enter Tryd.func93, Tryd.ntmps93
    go_wp2_with fail
    go_ret
    refine ⟨none, 0, rfl, ?_, New.none _, Mods.refl _ _, by simp⟩
    rw [hl]
    exact Own.none w 5 1
  | some ad =>
    go_enter Tryd.func93, Tryd.ntmps93
    go_wp2_with (at_builtin; (refine wpList_app rfl (.tmp 5) (.tmp 6) ei22 rfl (own_lit w [] 5 0 rfl (Nat.zero_le _)) (h.mods (alloc_mods w _) (fun _ _ f => f)) rfl rfl (bv_one l) (by have := hn.le; omega) (by have := hn.maxLen; omega) ?_))
    intro a' c' w' hO
    go_wp2_with fail
    go_ret
    refine ⟨a', c', rfl, hO.own, hO.new (new_alloc w) (by simp), (alloc_mods w _).trans' hO.mods (fun i hi ⟨ad, e, hb⟩ => by cases e; simp at hb; omega), by have := hO.nil; simpa using this⟩

theorem AppOut.pre {w w' : World} {e sz : Nat} {a a' : Option Addr} {k c' m : Nat} {zs : List Value} (o : Obj) (h : AppOut (w.alloc o) w' e sz a a' k c' m zs) : AppOut w w' e sz a a' k c' m zs :=
  ⟨h.own, ((Mods.refl (In a) w).alloc o).trans' h.mods (fun _ _ hin => hin), h.fresh.imp (fun x => x) (fun x => x.mono (by simp)), h.nil⟩

/-- A number's 4 bytes, the highest first. -/
def en4 (x : Int) : List Int := [x / 16777216 % 256, x / 65536 % 256, x / 256 % 256, x % 256]
set_option maxHeartbeats 1000000 in
theorem f91 {a : Option Addr} {n c : Nat} {l : List Int} {w : World} (h : Own w 5 1 a n c (bv l)) (hn : Lim (n + 4)) (x : Int) :
    Calls Tryd.prog 91 #[.slice a n c, .int .u32 x] w fun e w' => ∃ a' c', e = .returned (.slice a' (n + 4) c') ∧ AppOut w w' 5 1 a a' (n + 4) c' 4 (bv (l ++ en4 x)) := by
  go_enter Tryd.func91, Tryd.ntmps91
  have hl := own_lit w (bv (en4 x)) 5 4 rfl (by simp only [maxLen]; omega)
  go_wp2_with (at_builtin; refine wpList_app rfl (.tmp 5) (.tmp 17) ei22 rfl (h.mods (alloc_mods w _) (fun _ _ f => f)) hl.toSv rfl rfl (bv_one _) (by have := hn.le; omega) hn.maxLen ?_)
  intro a' c' w' hO
  go_wp2_with fail
  go_ret
  refine ⟨a', c', rfl, ?_⟩
  rw [bv_append]
  exact hO.pre _

/-- A number's 8 bytes, the highest first. -/
def en8 (x : Int) : List Int := [x / 72057594037927936 % 256, x / 281474976710656 % 256, x / 1099511627776 % 256, x / 4294967296 % 256, x / 16777216 % 256, x / 65536 % 256, x / 256 % 256, x % 256]
set_option maxHeartbeats 1000000 in
theorem f92 {a : Option Addr} {n c : Nat} {l : List Int} {w : World} (h : Own w 5 1 a n c (bv l)) (hn : Lim (n + 8)) (x : Int) :
    Calls Tryd.prog 92 #[.slice a n c, .int .u64 x] w fun e w' => ∃ a' c', e = .returned (.slice a' (n + 8) c') ∧ AppOut w w' 5 1 a a' (n + 8) c' 8 (bv (l ++ en8 x)) := by
  go_enter Tryd.func92, Tryd.ntmps92
  have hl := own_lit w (bv (en8 x)) 5 8 rfl (by simp only [maxLen]; omega)
  go_wp2_with (at_builtin; refine wpList_app rfl (.tmp 5) (.tmp 29) ei22 rfl (h.mods (alloc_mods w _) (fun _ _ f => f)) hl.toSv rfl rfl (bv_one _) (by have := hn.le; omega) hn.maxLen ?_)
  intro a' c' w' hO
  go_wp2_with fail
  go_ret
  refine ⟨a', c', rfl, ?_⟩
  rw [bv_append]
  exact hO.pre _

/-- A number's 2 bytes, the highest first. -/
def en2 (x : Int) : List Int := [x / 256 % 256, x % 256]
set_option maxHeartbeats 1000000 in
theorem f136 {a : Option Addr} {n c : Nat} {l : List Int} {w : World} (h : Own w 5 1 a n c (bv l)) (hn : Lim (n + 2)) (x : Int) :
    Calls Tryd.prog 136 #[.slice a n c, .int .u16 x] w fun e w' => ∃ a' c', e = .returned (.slice a' (n + 2) c') ∧ AppOut w w' 5 1 a a' (n + 2) c' 2 (bv (l ++ en2 x)) := by
  go_enter Tryd.func136, Tryd.ntmps136
  have hl := own_lit w (bv (en2 x)) 5 2 rfl (by simp only [maxLen]; omega)
  go_wp2_with (at_builtin; refine wpList_app rfl (.tmp 5) (.tmp 11) ei22 rfl (h.mods (alloc_mods w _) (fun _ _ f => f)) hl.toSv rfl rfl (bv_one _) (by have := hn.le; omega) hn.maxLen ?_)
  intro a' c' w' hO
  go_wp2_with fail
  go_ret
  refine ⟨a', c', rfl, ?_⟩
  rw [bv_append]
  exact hO.pre _

end Go.Proofs.YtladijfaeieidaaDoor