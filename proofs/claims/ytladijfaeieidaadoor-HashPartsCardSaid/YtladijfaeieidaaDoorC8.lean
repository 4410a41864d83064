/- Contracts: Put64; the law for copy at a step of a region that draws. Condition: the row is known whole. -/
import Derived.Test.YtladijfaeieidaaDoorC7
import Derived.Deep.RegionLaw
import Derived.RegionTactic
import Derived.Deep.RegionHeld3
namespace Go.Proofs.YtladijfaeieidaaDoor
open Go.RowKit

theorem step_copy {P : Program} {w : World} {ops : Array Oper} {o : Oper} {a : Act} {K : Act → World → Prop} {Q : Exit → Act → World → Prop} {E : Prop} (hgd : o.guard = none) (d s : Operand) (dT sT : TypeId)
    (ho : o.op = .call { callee := .builtin .copy, args := #[d, s], argTypes := #[dT, sT] }) (elem : TypeId) (hu : P.underlying dT = some (.slice elem)) (hsz : (P.info? elem).map (·.size) = some 1)
    {g t : Nat} {cur : List Value} (hg : RB w g t cur) (off dn dc : Nat) (hd : a.eval d = .slice (some ⟨g, off, none⟩) dn dc) {sa : Option Addr} {sn sc : Nat} {ys : List Value} (hs : Sv w t 1 sa sn sc ys) (hse : a.eval s = .slice sa sn sc)
    (hn : sn ≤ dn) (hp : 0 < sn) (hfit : off + sn ≤ cur.length) (h1 : ∀ v ∈ ys, v.oneCell' = true)
    (h : K (a.put o.dst (goInt sn)) (w.setRow g (splice cur off ys).toArray)) :
    if Region.wanted o (yielded ops a.tmps) = true then Oper.wp P o a w K Q else E := by
  have hw : Region.wanted o (yielded ops a.tmps) = true := by simp [Region.wanted, hgd]
  rw [if_pos hw]
  obtain ⟨b, f, rfl⟩ := hs.addr hp
  have hl : ys.length = sn := by simpa using hs.len
  have hrun := run_copy_row (P := P) w dT sT o.type elem g off dn dc ⟨b, f, none⟩ sn sc cur.toArray t ys hu hsz hg.heap (by rw [hl]; exact (Nat.min_eq_left hn).symm) (fun j v hv => by rw [Addr.add_lit]; exact hs.cell hv) (by simpa [hl] using hfit) h1
  unfold Oper.wp
  simp [execOp, ho, resolve, invoke, builtin, hd, hse, hrun, Result.andThen]
  simpa [Oper.upon, splice, hl] using h

theorem RB.setRow {w : World} {g t : Nat} {l : List Value} (h : RB w g t l) (cs : List Value) : RB (w.setRow g cs.toArray) g t cs := ⟨setRow_heap _ _ _ _ _ _ h.heap⟩
theorem own_nil (w : World) : Own w 5 1 none 0 0 (bv []) := Own.none w 5 1
theorem s5 : (Tryd.prog.info? 5).map (·.size) = some 1 := by kernel_rfl
set_option maxHeartbeats 1000000 in
set_option maxRecDepth 100000 in
theorem f90 (w : World) (g off n c : Nat) (cur : List Value) (hg : RB w g 5 cur) (hn : 8 ≤ n) (hc : n ≤ c) (hfit : off + 8 ≤ cur.length) (x : Int) :
    Calls Tryd.prog 90 #[.slice (some ⟨g, off, none⟩) n c, .int .u64 x] w fun e w' => e = .returned (.tuple #[]) ∧ RB w' g 5 (splice cur off (bv (en8 x))) ∧ Mods (fun i => i = g) w w' := by
  have hc0 : ¬ c = 0 := by omega
  have hc8 : (8 : Int) ≤ c := by omega
  have hc8' : 8 ≤ c := by omega
  go_enter Tryd.func90, Tryd.ntmps90
  have hL8 : Lim (0 + 8) := ⟨by omega⟩
  have hp8 : 0 < 0 + 8 := by omega
  have hp9 : 0 + 8 ≤ 8 := by omega
  have hni : ∀ k, In none k → False := fun _ ⟨_, e, _⟩ => by cases e
  go_region_held3 (fun _ => True) (first | exact True.intro) (first | (go_at_call 92; with_reducible refine (f92 (own_nil _) hL8 x).mono ?_; rintro e w' ⟨a', c', rfl, hO⟩) | (with_reducible refine step_copy rfl (.tmp 5) (.tmp 7) 22 22 rfl 5 Tryd.underlying22 s5 (hg.drew.mods hO.mods (hni _)) off 8 c rfl hO.own.toSv rfl hp9 hp8 hfit (bv_one _) ?_))
  go_end0
  have h1 := hg.drew.mods hO.mods (hni _)
  refine ⟨rfl, ⟨setRow_heap _ _ _ _ _ _ h1.heap⟩, ?_⟩
  exact (((Mods.refl (fun i => i = g) w).drew).trans' hO.mods (fun i _ h => (hni i h).elim)).setRow (.inl rfl) _
end Go.Proofs.YtladijfaeieidaaDoor
