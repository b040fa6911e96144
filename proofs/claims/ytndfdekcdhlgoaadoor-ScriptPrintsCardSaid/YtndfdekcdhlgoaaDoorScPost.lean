/- A law's row behind its walk; the knob and the layout. -/
/- The fonts' names, off the row's laid condition. -/
/- ScriptPrints' row (the first form): its contract, its witness, its step. -/
import Derived.Test.YtndfdekcdhlgoaaDoorRows
import Derived.Test.YtndfdekcdhlgoaaDoorChecked
import Derived.ProofKit
import Derived.OpenShut
import Derived.Below
import Derived.ChangeSame
import Derived.Stop.Joined
import Derived.Test.YtndfdekcdhlgoaaDoorScPaI
import Derived.Test.YtndfdekcdhlgoaaDoorScOpenG
import Derived.ChangeBears2
import Derived.MakeChecks
import Derived.Test.YtndfdekcdhlgoaaDoorScL26F
import Derived.Test.YtndfdekcdhlgoaaDoorScOpenF
import Derived.LaidMore
import Derived.Lay
import Derived.Deep.DeepHandedRow
set_option linter.unusedVariables false
set_option linter.unusedSimpArgs false
namespace Go.Proofs.YtndfdekcdhlgoaaDoor
open Go.ChangeShapes Go.WideShapes Go.ChangeAt Go.RowKit
section
variable {H : Type} {enc : TypeId × Value → H} {P : Program}
/-- What is read of the arguments is read behind a call that turned no old block. -/
theorem trodAll_below (hl : laidOutB P = true) {W W' : World} (hb : Below W.heap.size W W') : ∀ {ts : List TypeId} {vs : List Value} {ds : List (DataW H)} {ps : List MemPlace},
    (ts.all fun t => P.readableRec t && decide (t < P.types.size)) = true → DataW.TrodAll enc P W 0 (fun _ => true) true ts vs ds ps → (∀ x ∈ ps, x.block < W.heap.size) →
    DataW.TrodAll enc P W' 0 (fun b => decide (b < W.heap.size)) true ts vs ds ps
  | [], _, _, _, _, h, _ => by
    obtain ⟨rfl, rfl, rfl⟩ := trodAll_nil h
    exact trodAll_mk0
  | t :: ts, _, _, _, hr, h, hlt => by
    obtain ⟨v, vs', d, ds', p, q, rfl, rfl, rfl, hd, hs⟩ := trodAll_cons h
    simp only [List.all_cons, Bool.and_eq_true, decide_eq_true_eq] at hr
    exact trodAll_cons_mk (Below.trod hl hr.1.1 hr.1.2 hd hb fun x hx => hlt x (List.mem_append.2 (.inl hx)))
      (trodAll_below hl hb (by simpa only [Bool.and_eq_true, decide_eq_true_eq] using hr.2) hs fun x hx => hlt x (List.mem_append.2 (.inr hx)))
/-- A law's row, behind its walk: it answered true, and no old block turned. -/
theorem law_post {f : Func} {s : ChangeSpec} {W W' : World} {args : Array Value} {ds gs : List (DataW H)} {before : List MemPlace} {tb : TypeId} (hl : laidOutB P = true)
    (hr : (f.params.toList.all fun t => P.readableRec t && decide (t < P.types.size)) = true) (ht : f.resultTypes = #[tb]) (hb4 : P.underlying tb = some .bool) (hv : s.vars = [])
    (hW : DataW.Whole enc P f.params.toList s.vars false W args.toList ds gs before)
    (h1 : (s.fn H (ds ++ gs)).results = [.lit (.bool true)]) (h2 : (s.fn H (ds ++ gs)).args = ds) (h3 : (s.fn H (ds ++ gs)).vars = []) (hb : Below W.heap.size W W') :
    s.post enc P f false true false false W args (.bool true) W' := by
  have hlt : ∀ p ∈ before, p.block < W.heap.size := fun p hp => hW.lt p hp
  have hW' := hW
  obtain ⟨p, q, hA, hV, rfl, _, _⟩ := hW
  rw [hv] at hV
  obtain ⟨rfl, rfl⟩ := trodVars_none hV
  refine ⟨ds, [], _, [], p, [], hW', ?_, ?_, ?_, World.keptBut_mono (fun x hx => ⟨hx, .inr (.inl (by simpa using hx))⟩) (hb.frame (· ∈ p ++ [])), fun h => by cases h⟩
  · rw [h1, ht]
    exact trodAll_mk1 (shut_bool hb4 _)
  · rw [h2]
    exact trodAll_below hl hb hr hA fun x hx => hlt x (List.mem_append.2 (.inl hx))
  · rw [h3, hv]
    exact rfl
end
theorem own : ownKnob Tryd.prog.godebug = none := by kernel_rfl
theorem laidOut : laidOutB Tryd.prog = true := by kernel_rfl
end Go.Proofs.YtndfdekcdhlgoaaDoor
namespace Go.Proofs.YtndfdekcdhlgoaaDoor
open Go.ChangeShapes Go.WideShapes Go.RowKit
theorem laid_tail {P : Program} {w : World} {a : String × DataW Unit} {r : List (String × DataW Unit)} {ps : List MemPlace} (h : DataW.LaidVars P w (a :: r) ps) : ∃ q, DataW.LaidVars P w r q := by
  obtain ⟨n, d⟩ := a
  obtain ⟨_, _, _, _, _, q, _, _, _, _, h, _⟩ := h
  exact ⟨q, h⟩
theorem laid_head {P : Program} {w : World} {n : String} {d : DataW Unit} {r : List (String × DataW Unit)} {ps : List MemPlace} (h : DataW.LaidVars P w ((n, d) :: r) ps) :
    ∃ g t cs fuel p, P.globalNamed n = some g ∧ (P.globals[g]?).map (·.type) = some t ∧ w.var? P n = some cs ∧ DataW.trod (fun _ => ()) P w 0 (fun _ => true) false fuel t cs.toList = some (d, p) := by
  obtain ⟨g, t, cs, fuel, p, q, h1, h2, h3, h4, _⟩ := h
  exact ⟨g, t, cs, fuel, p, h1, h2, h3, h4⟩
theorem loop_len (s : ByteArray) : ∀ (k i : Nat) (r : List UInt8), s.size - i ≤ k → r.length ≤ (ByteArray.toList.loop s i r).length
  | 0, i, r, h => by
    rw [ByteArray.toList.loop, if_neg (by omega)]
    simp
  | k + 1, i, r, h => by
    rw [ByteArray.toList.loop]
    split
    · have := loop_len s k (i + 1) (s.get! i :: r) (by omega)
      simp only [List.length_cons] at this
      omega
    · simp
theorem toList_nil {s : ByteArray} (h : s.toList = []) : s.data.toList = [] := by
  by_cases hs : 0 < s.size
  · unfold ByteArray.toList at h
    rw [ByteArray.toList.loop, if_pos hs] at h
    have := loop_len s s.size 1 [s.get! 0] (by omega)
    rw [h] at this
    simp at this
  · have h0 : s.data.size = 0 := by
      have : s.size = s.data.size := rfl
      omega
    exact List.length_eq_zero_iff.1 (by rw [Array.length_toList]; exact h0)
def nonE : DataW Unit → Bool
  | .lit (.string (_ :: _)) => true
  | _ => false
def nonEs : DataW Unit → Bool
  | .agg l => l.all nonE
  | _ => false
theorem cells_str : Tryd.prog.cellsOf 9 = 1 := by kernel_rfl
theorem cells_s14 : Tryd.prog.cellsOf 108 = 14 := by kernel_rfl
theorem names_at : Tryd.prog.globalNamed "mezzotint/font.names" = some 0 := by kernel_rfl
theorem names_type : (Tryd.prog.globals[0]?).map (·.type) = some 108 := by kernel_rfl
theorem names_full : nonEs Rows.laid_mezzotint_font_names = true := by kernel_rfl
set_option maxRecDepth 100000 in
theorem fonts_of {W : World} {d : DataW Unit} (hd : nonEs d = true) {r : List (String × DataW Unit)} {ps : List MemPlace} (h : DataW.LaidVars Tryd.prog W (("mezzotint/font.names", d) :: r) ps) : Fonts W ∧ 0 < W.heap.size := by
  obtain ⟨g, t, cs, fuel, p, h1, h2, h3, h4⟩ := laid_head h
  rw [names_at] at h1
  injection h1 with h1
  subst h1
  rw [names_type] at h2
  injection h2 with h2
  subst h2
  obtain ⟨xs, m, _, hx, hl, hn, hk⟩ := DataW.trod_array Tryd.underlying108 h4
  have hF : Fonts W := by
    intro k hk14
    have hlt : k < cs.toList.length := by rw [hl, cells_s14]; exact hk14
    have hg : cs.toList[k]? = some cs.toList[k] := List.getElem?_eq_getElem hlt
    have e := hk k hk14
    have hlx : k < xs.length := by rw [hn]; exact hk14
    rw [cells_str, Nat.mul_one, take_one_at hg, List.getElem?_eq_getElem hlx] at e
    obtain ⟨s, hs, hxs, _⟩ := DataW.trod_string Tryd.underlying9 e
    injection hs with hs _
    refine ⟨s, ?_, ?_⟩
    · intro h0
      have hd' : d = .agg (xs.map (·.1)) := by injection hx
      rw [hd'] at hd
      have hm : (xs[k]).1 ∈ xs.map (·.1) := List.mem_map.2 ⟨_, List.getElem_mem hlx, rfl⟩
      have := List.all_eq_true.1 (show (xs.map (·.1)).all nonE = true from hd) _ hm
      rw [hxs] at this
      have h0' : s.data.toList = [] := toList_nil h0
      rw [h0'] at this
      cases this
    · rw [var?_cell names_at h3, ← Array.getElem?_toList, hg, hs]
  refine ⟨hF, ?_⟩
  obtain ⟨s, _, h⟩ := hF 0 (by omega)
  exact World.block_lt_of_cell? W _ h
theorem laid_fonts {W : World} (h : laidMetH Tryd.prog Rows.scriptPrintsUptoRow.laid W) : Fonts W ∧ 0 < W.heap.size := by
  rw [MakeChecks.laidMetH_plain _ _ _ (by kernel_rfl)] at h
  obtain ⟨ps, hl, _⟩ := h
  obtain ⟨_, hl⟩ := laid_tail hl
  obtain ⟨_, hl⟩ := laid_tail hl
  obtain ⟨_, hl⟩ := laid_tail hl
  exact fonts_of names_full hl
end Go.Proofs.YtndfdekcdhlgoaaDoor
namespace Go.Proofs.YtndfdekcdhlgoaaDoor
open Go.ChangeShapes Go.WideShapes Go.ChangeAt Go.RowKit
set_option maxRecDepth 100000 in
theorem ScriptPrintsF_row (H : Type) (enc : TypeId × Value → H) (W : World) (base : Nat) (args : Array Value) (ds gs : List (DataW H)) (before : List MemPlace)
    (hval0 : ∀ (j : Nat) t v, Tryd.f3.params[j]? = some t → args[j]? = some v → Value.okWide Tryd.prog W .any base t v)
    (hW : DataW.Whole enc Tryd.prog Tryd.f3.params.toList Rows.scriptPrintsSpec.vars false W args.toList ds gs before) (hk : (DataW.weightsEach Tryd.prog (Tryd.f3.params.toList ++ []) (ds ++ gs)).all (· ≤ reachBytes) = true)
    (hL : laidMetH Tryd.prog Rows.scriptPrintsRow.laid W) :
    Calls Tryd.prog 3 args W fun e W' => ∃ v, e = .returned v ∧ Rows.scriptPrintsSpec.post enc Tryd.prog Tryd.f3 false true false false W args v W' := by
  have hval : ∀ (j : Nat) t v, Tryd.f3.params[j]? = some t → args[j]? = some v → Value.okWide Tryd.prog W .any base t v := hval0
  have hW' := hW
  obtain ⟨p, q, hA0, hV, rfl, _, _⟩ := hW
  have hA : DataW.TrodAll enc Tryd.prog W 0 (fun _ => true) true Tryd.f3.params.toList args.toList ds p := hA0
  rw [Tryd.params3] at hA hval
  obtain ⟨v0, d0, rfl, rfl, f0, h0⟩ := trodAll_one hA
  obtain ⟨rfl, rfl⟩ := trodVars_none hV
  obtain ⟨A1, n1, c1, rfl⟩ := okWide_slice Tryd.underlying22 (hval 0 22 v0 rfl rfl)
  have hwt : Within (d0.weights Tryd.prog 22) := by
    rw [Tryd.params3] at hk
    have hk2 : Within (d0.weights Tryd.prog 22 ++ []) := hk
    exact (Within.app.1 hk2).1
  obtain ⟨B1, m1, k1, l, e1, l1, l2, r1, hM⟩ := open_pages_w f0 _ _ h0 hwt
  simp only [Value.cells, List.cons.injEq, Value.slice.injEq, and_true] at e1
  obtain ⟨rfl, rfl, rfl⟩ := e1
  obtain ⟨hF, hg⟩ := laid_fonts hL
  refine (ScriptPrints_full W r1 hF hg hM).mono fun e W' ⟨he, hf⟩ => ?_
  subst he
  exact ⟨_, rfl, law_post laidOut (by kernel_rfl) (tb := 4) (by kernel_rfl) Tryd.underlying4 rfl hW' rfl rfl rfl hf.below⟩

/-- The witness' argument. -/
def scfArgs : Array Value := #[.slice none 0 0]
noncomputable def scfWorld (os : Os) : World := (World.laidAll Tryd.prog os Rows.scriptPrintsRow.laid).forCall (fun _ _ => 0) ⟨#[], scfArgs, []⟩
theorem scf_laid (os : Os) : laidMetH Tryd.prog Rows.scriptPrintsRow.laid (scfWorld os).memory := by
  rw [MakeChecks.laidMetH_plain _ _ _ (by kernel_rfl)]
  exact laidMet_laidAll _ (by kernel_rfl) (by kernel_rfl)
theorem scf_reads (os : Os) {H : Type} (enc : TypeId × Value → H) : DataW.whole enc Tryd.prog (scfWorld os).memory Tryd.f3.params.toList Rows.scriptPrintsSpec.vars false scfArgs.toList 8 = some ([.nil], [], []) := by kernel_rfl
theorem scf_sized (os : Os) {H : Type} (enc : TypeId × Value → H) : (OpenSpec.ofChange Rows.scriptPrintsSpec).bare.sizedB enc Tryd.prog Tryd.f3 false (scfWorld os).memory scfArgs 8 = true := by kernel_rfl
theorem scf_shaped (os : Os) : (scfWorld os).Shaped Tryd.prog := World.shaped_of_ZipB (by kernel_rfl) (by kernel_rfl)
theorem scf_ok (os : Os) : Input.okWideB Tryd.prog (scfWorld os) 3 ⟨#[], scfArgs, []⟩ = true := by kernel_rfl
theorem scf_pre (os : Os) {H : Type} (enc : TypeId × Value → H) : (OpenSpec.ofChange Rows.scriptPrintsSpec).preRow enc Tryd.prog Tryd.f3 Rows.scriptPrintsRow.domain false Rows.scriptPrintsRow.laid (scfWorld os).memory scfArgs :=
  OpenSpec.preRow_of_cond 8 (scf_reads os enc) (by kernel_rfl) (fun k hk => by cases hk) (scf_sized os enc) (scf_laid os)
set_option maxRecDepth 100000 in
theorem ScriptPrintsF_lifted (os : Os) (started : os.Started) (H : Type) (enc : TypeId × Value → H) (F : Stop.Interp) :
    ReturnsInHanded {} Tryd.checked os 3 .any ((OpenSpec.ofChange Rows.scriptPrintsSpec).preRow enc Tryd.prog Tryd.f3 Rows.scriptPrintsRow.domain false Rows.scriptPrintsRow.laid) (((OpenSpec.ofChange Rows.scriptPrintsSpec).at F).post enc Tryd.prog Tryd.f3 false true false false) := by
  refine returnsInHanded_of_row (C := Tryd.checked) (s := OpenSpec.ofChange Rows.scriptPrintsSpec) own started (by kernel_rfl) Tryd.func3
    ⟨World.laidAll Tryd.prog os Rows.scriptPrintsRow.laid, fun _ _ => 0, ⟨#[], scfArgs, []⟩, World.laidAll_os _ _ _, scf_shaped os, (Input.okWide_of_okWideB (base := 0) (scf_ok os)).1, (Input.okWide_of_okWideB (scf_ok os)).2, scf_pre os enc, by
      simp only [Assume.holds]
      exact ⟨by simp, by simp, fun _ => Modest.zero, by simp, by simp⟩⟩ ?_
  intro W base args ds gs before hval hW _ _ hwts hL _ _
  exact ScriptPrintsF_row H enc W base args ds gs before hval hW hwts hL
end Go.Proofs.YtndfdekcdhlgoaaDoor
