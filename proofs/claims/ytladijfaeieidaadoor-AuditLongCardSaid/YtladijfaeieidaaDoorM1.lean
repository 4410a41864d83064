/- How a function with a range over a function ends; a result that lies in a cell. No condition. -/
import Derived.Test.YtladijfaeieidaaDoorE1
import Derived.Laws.Rows
namespace Go.Proofs.YtladijfaeieidaaDoor
open Go.RowKit Go.Shelf

theorem marks_plain {P : Program} {fn : Func} {tmps : Array Value} {R : Ending → World → Prop} {W : World} {v : Value}
    (hr : (results fn tmps).run P W = .ok v W) (hR : R (.returned v) W) : bodyPostM Fence.wide 0 P fn R .ret { tmps, defers := [] } W := ⟨v, hr, hR⟩
theorem res_cell4 {fn : Func} {p : Nat} (h : fn.results = #[.cell p 4]) (tmps : Array Value) (w : World) (g : Nat) (v : Bool) (hp : tmps.getD p undef = .pointer (some ⟨g, 0, none⟩)) (hc : w.cell? ⟨g, 0, none⟩ = some (.bool v)) :
    (results fn tmps).run Tryd.prog w = .ok (.bool v) w := by
  have hp' : tmps[p]?.getD undef = .pointer (some ⟨g, 0, none⟩) := by simpa using hp
  simp [results, h, hp', asAddr, go_sem, hc]
end Go.Proofs.YtladijfaeieidaaDoor
