/- What all closings of this seat's cards share: the table of constants out of the row's condition; arguments that read as they did; a world for the witness. No condition. -/
import Derived.Test.YtladijfaeieidaaDoorE1
import Derived.Test.YtladijfaeieidaaDoorCards
import Derived.Test.YtladijfaeieidaaDoorTie
import Derived.ProofKit
import Derived.OpenShut
import Derived.Deep.DeepHandedRow
import Derived.Lib.LaidTab
import Derived.Carry
namespace Go.Proofs.YtladijfaeieidaaDoor
open Go.ChangeShapes Go.WideShapes Go.ChangeAt Go.RowKit

theorem own : ownKnob Tryd.prog.godebug = none := by kernel_rfl
theorem laidOut : laidOutB Tryd.prog = true := by kernel_rfl
theorem gTab : Tryd.prog.globalNamed "bailey/hashes.k" = some 0 := by kernel_rfl
theorem gTabType : (Tryd.prog.globals[0]?).map (·.type) = some 172 := by kernel_rfl
theorem cells107 : Tryd.prog.cellsOf 107 = 1 := by kernel_rfl
theorem cells5 : Tryd.prog.cellsOf 5 = 1 := by kernel_rfl
def ktab : List Int := [4794697086780616226, 8158064640168781261, 13096744586834688815, 16840607885511220156, 4131703408338449720, 6480981068601479193, 10538285296894168987, 12329834152419229976, 15566598209576043074, 1334009975649890238, 2608012711638119052, 6128411473006802146, 8268148722764581231, 9286055187155687089, 11230858885718282805, 13951009754708518548, 16472876342353939154, 17275323862435702243, 1135362057144423861, 2597628984639134821, 3308224258029322869, 5365058923640841347, 6679025012923562964, 8573033837759648693, 10970295158949994411, 12119686244451234320, 12683024718118986047, 13788192230050041572, 14330467153632333762, 15395433587784984357, 489312712824947311, 1452737877330783856, 2861767655752347644, 3322285676063803686, 5560940570517711597, 5996557281743188959, 7280758554555802590, 8532644243296465576, 9350256976987008742, 10552545826968843579, 11727347734174303076, 12113106623233404929, 14000437183269869457, 14369950271660146224, 15101387698204529176, 15463397548674623760, 17586052441742319658, 1182934255886127544, 1847814050463011016, 2177327727835720531, 2830643537854262169, 3796741975233480872, 4115178125766777443, 5681478168544905931, 6601373596472566643, 7507060721942968483, 8399075790359081724, 8693463985226723168, 9568029438360202098, 10144078919501101548, 10430055236837252648, 11840083180663258601, 13761210420658862357, 14299343276471374635, 14566680578165727644, 15097957966210449927, 16922976911328602910, 17689382322260857208, 500013540394364858, 748580250866718886, 1242879168328830382, 1977374033974150939, 2944078676154940804, 3659926193048069267, 4368137639120453308, 4836135668995329356, 5532061633213252278, 6448918945643986474, 6902733635092675308, 7801388544844847127]
theorem gk_of {W : World} (h : laidMetH Tryd.prog [("bailey/hashes.k", Rows.laid_bailey_hashes_k)] W) : GK W := by
  have h' : laidMet Tryd.prog (("bailey/hashes.k", Lib.tabData .u64 ktab) :: []) W := h
  have ht := Lib.tabIs_of_head (rest := []) gTab gTabType Tryd.underlying172 Tryd.underlying107 cells107 c172 h'
  refine ⟨fun i hi => ?_⟩
  have := ht.cell gTab i (by simpa [ktab] using hi)
  exact this

section
variable {H : Type} {enc : TypeId × Value → H}
/-- Arguments read behind the call as they did. -/
theorem all_stay {W W' : World} {sp : Nat → Bool} : ∀ {ts : List TypeId} {vs : List Value} {ds : List (DataW H)} {ps : List MemPlace}, (∀ t ∈ ts, Tryd.prog.readableRec t = true ∧ t < Tryd.prog.types.size) →
    DataW.TrodAll enc Tryd.prog W 0 (fun _ => true) true ts vs ds ps → (∀ p ∈ ps, W.sameAt W' p) → (∀ p ∈ ps, sp p.block = true) → DataW.TrodAll enc Tryd.prog W' 0 sp true ts vs ds ps
  | [], vs, ds, ps, _, h, _, _ => by
    cases vs <;> cases ds <;> simp [DataW.TrodAll] at h ⊢
    exact h
  | t :: ts, _, _, _, ht, h, hs, hp => by
    obtain ⟨v, vs1, d, ds1, a, b, rfl, rfl, rfl, h1, h2⟩ := trodAll_cons h
    obtain ⟨r1, r2⟩ := ht t (List.mem_cons_self)
    exact trodAll_cons_mk (WideElems.Trod_stays laidOut r1 r2 h1 (fun p hq => hs p (List.mem_append_left _ hq)) (fun p hq => hp p (List.mem_append_left _ hq)))
      (all_stay (fun t' h' => ht t' (List.mem_cons_of_mem _ h')) h2 (fun p hq => hs p (List.mem_append_right _ hq)) (fun p hq => hp p (List.mem_append_right _ hq)))
/-- A call that answers true and changes nothing that lay meets the row's demand. -/
theorem law_post {f : Func} {s : ChangeSpec} {W W' : World} {args : Array Value} {ds gs : List (DataW H)} {before : List MemPlace} (hv : s.vars = [])
    (hf : (f.params.toList.all fun t => Tryd.prog.readableRec t && decide (t < Tryd.prog.types.size)) = true) (hr : f.resultTypes = #[4])
    (hs : (s.fn H (ds ++ gs)) = { results := [.lit (.bool true)], args := ds }) (hW : DataW.Whole enc Tryd.prog f.params.toList s.vars false W args.toList ds gs before) (hM : Mods Nix W W') :
    s.post enc Tryd.prog f false true false false W args (.bool true) W' := by
  have hb := hM.below
  have hlt : ∀ p ∈ before, p.block < W.heap.size := fun p hp => hW.lt p hp
  have hW0 := hW
  obtain ⟨p, q, hA, hV, rfl, -, -⟩ := hW
  rw [hv] at hV
  obtain ⟨rfl, rfl⟩ := trodVars_none hV
  refine ⟨ds, [], _, [], p, [], hW0, ?_, ?_, ?_, World.keptBut_mono (fun x hx => ⟨hx, ?_⟩) (hb.frame (· ∈ p ++ [])), fun h => by cases h⟩
  · rw [hs, hr]
    exact trodAll_cons_mk (shut_bool Tryd.underlying4 _) trodAll_mk0
  · rw [hs]
    refine all_stay (fun t ht => by simpa using List.all_eq_true.1 hf t ht) hA (fun x hx => hb.same (hlt x (by simpa using hx))) (fun x hx => by simpa using hlt x (by simpa using hx))
  · rw [hs, hv]
    simp [DataW.TrodVars]
  · exact .inr (.inl (by simpa using hx))

set_option maxRecDepth 100000 in
theorem open_bytes {W : World} {base : Nat} {v : Value} {d : DataW H} {p : List MemPlace} (hval : Value.okWide Tryd.prog W .any base 22 v) (hd : DataW.Trod enc Tryd.prog W 0 (fun _ => true) true 22 v d p) :
    ∃ a n c l, v = .slice a n c ∧ Sv W 5 1 a n c (bv l) ∧ Byt l := by
  obtain ⟨a, n, c, rfl⟩ := okWide_slice Tryd.underlying22 hval
  obtain ⟨fuel, hf⟩ := hd
  rcases open_ints Tryd.underlying22 Tryd.underlying5 cells5 hf with ⟨h1, _⟩ | ⟨ad, len, cap, zs, h1, _, hl, hm, hz, _, hcell, hw⟩
  · have h2 : Value.slice a n c = .slice none 0 0 := by simpa [Value.cells] using h1
    injection h2 with e1 e2 e3
    subst e1 e2 e3
    exact ⟨none, 0, 0, [], rfl, by simpa [bv] using (Own.none W 5 1).toSv, Byt.nil⟩
  · have h2 : Value.slice a n c = .slice (some ad) len cap := by simpa [Value.cells] using h1
    injection h2 with e1 e2 e3
    subst e1 e2 e3
    have hk : Tryd.prog.underlying 22 = some (.slice 5) := Tryd.underlying22
    simp only [Value.okWide, hk, Cell.okWide, Cell.ok] at hval
    obtain ⟨-, -, -, hspot, row, cells, hsh, -⟩ := hval
    have hzl : zs.length = c := by simpa using hz
    have hbl : ∃ cur t' fz, W.heap[ad.block]? = some (.cells cur t' fz) := by
      unfold World.shape? at hsh
      split at hsh
      · exact ⟨_, _, _, by assumption⟩
      · cases hsh
    obtain ⟨cur, t', fz, hbl⟩ := hbl
    obtain ⟨b, o, s⟩ := ad
    simp at hspot
    subst hspot
    refine ⟨_, n, c, zs.take n, rfl, ⟨by simp [bv]; omega, hl, hm, fun e => (by cases e), fun ad e => ?_⟩, fun x hx => ?_⟩
    · cases e
      refine ⟨rfl, cur, t', fz, hbl, fun i u hu => ?_⟩
      have hi : i < (bv (zs.take n)).length := (List.getElem?_eq_some_iff.1 hu).1
      simp only [bv, List.length_map, List.length_take] at hi
      have h3 := hcell i (by omega)
      rw [Addr.add_lit, cell_of_row W b _ cur t' fz hbl] at h3
      rw [h3, ← hu, getElem?_bv _ _ (by simp; omega)]
      have hi2 : i < n := by omega
      simp [List.getD, hi2]
    · have := hw x (List.mem_of_mem_take hx)
      simp [Lit.wf, IntKind.min, IntKind.max, IntKind.bits, IntKind.signed] at this
      omega
end
theorem i64_wf {n : Int} (h : (Lit.int .i64 n).wf = true) : -9223372036854775808 ≤ n ∧ n ≤ 9223372036854775807 := by
  simpa [Lit.wf, IntKind.min, IntKind.max, IntKind.bits, IntKind.signed] using h
theorem u8_wf {n : Int} (h : (Lit.int .u8 n).wf = true) : 0 ≤ n ∧ n < 256 := by
  simp [Lit.wf, IntKind.min, IntKind.max, IntKind.bits, IntKind.signed] at h
  omega
/-- No parameter wants a stand-in. -/
theorem plain_of {name : String} {F : FuncId} {fn0 : Func} (h1 : Tryd.prog.funcNamed name = some F) (h2 : Tryd.prog.funcs[F]? = some fn0) (h3 : (fn0.params.toList.all fun t => !Tryd.prog.wantsStandIn t) = true)
    (f : FuncId) (fn : Func) (hf : Tryd.pinned.checked.prog.funcNamed name = some f) (hfn : Tryd.pinned.checked.prog.funcs[f]? = some fn) :
    false = Tryd.pinned.checked.prog.looks [] ∧ ∀ (j : Nat) t, fn.params[j]? = some t → Tryd.pinned.checked.prog.wantsStandIn t = false := by
  obtain rfl : F = f := Option.some.inj (h1.symm.trans hf)
  obtain rfl : fn0 = fn := Option.some.inj (h2.symm.trans hfn)
  refine ⟨by kernel_rfl, fun j t ht => ?_⟩
  have hm : t ∈ fn0.params.toList := by simpa using Array.mem_of_getElem? ht
  have h4 := List.all_eq_true.1 h3 t hm
  show Tryd.prog.wantsStandIn t = false
  simpa using h4
/-- A world for the witness: the settled one, the table holding what its text lays. -/
noncomputable def laidWorld (os : Os) : World :=
  { World.holding Tryd.prog os ⟨#[], #[], []⟩ with heap := (World.holding Tryd.prog os ⟨#[], #[], []⟩).heap.modify 0 fun
      | .cells _ t frozen => .cells (ktab.map (Value.int .u64)).toArray t frozen
      | o => o }
end Go.Proofs.YtladijfaeieidaaDoor
