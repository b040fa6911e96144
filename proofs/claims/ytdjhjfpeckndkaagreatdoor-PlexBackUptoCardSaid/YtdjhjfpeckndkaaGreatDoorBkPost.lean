/- A law's row behind its walk; the knob and the layout. -/
/- PlexBack's row (the second form): its contract, its witness, its step. -/
import Derived.Test.YtdjhjfpeckndkaaGreatDoorRows
import Derived.Test.YtdjhjfpeckndkaaGreatDoorChecked
import Derived.ProofKit
import Derived.OpenShut
import Derived.Below
import Derived.ChangeSame
import Derived.Stop.Joined
import Derived.Test.YtdjhjfpeckndkaaGreatDoorBkOVal
import Derived.Test.YtdjhjfpeckndkaaGreatDoorBkLaw19C
import Derived.LaidMore
import Derived.Lay
import Derived.MakeChecks
import Derived.Deep.DeepHandedRow
set_option linter.unusedVariables false
set_option linter.unusedSimpArgs false
namespace Go.Proofs.YtdjhjfpeckndkaaGreatDoor
open Go.ChangeShapes Go.WideShapes Go.ChangeAt Go.RowKit
section
variable {H : Type} {enc : TypeId × Value → H} {P : Program}
/-- What is read of the arguments is read behind a call that turned no old block. -/
theorem trodAll_below (hl : laidOutB P = true) {W W' : World} (hb : Below W.heap.size W W') : ∀ {ts : List TypeId} {vs : List Value} {ds : List (DataW H)} {ps : List MemPlace},
    (ts.all fun t => P.readableRec t && decide (t < P.types.size)) = true → DataW.TrodAll enc P W 0 (fun _ => true) true ts vs ds ps → (∀ x ∈ ps, x.block < W.heap.size) →
    DataW.TrodAll enc P W' 0 (fun b => decide (b < W.heap.size)) true ts vs ds ps
  | [], _, _, _, _, h, _ => by
    obtain ⟨rfl, rfl, rfl⟩ := trodAll_nil h
    exact trodAll_mk0
  | t :: ts, _, _, _, hr, h, hlt => by
    obtain ⟨v, vs', d, ds', p, q, rfl, rfl, rfl, hd, hs⟩ := trodAll_cons h
    simp only [List.all_cons, Bool.and_eq_true, decide_eq_true_eq] at hr
    exact trodAll_cons_mk (Below.trod hl hr.1.1 hr.1.2 hd hb fun x hx => hlt x (List.mem_append.2 (.inl hx)))
      (trodAll_below hl hb (by simpa only [Bool.and_eq_true, decide_eq_true_eq] using hr.2) hs fun x hx => hlt x (List.mem_append.2 (.inr hx)))
/-- A law's row, behind its walk: it answered true, and no old block turned. -/
theorem law_post {f : Func} {s : ChangeSpec} {W W' : World} {args : Array Value} {ds gs : List (DataW H)} {before : List MemPlace} {tb : TypeId} (hl : laidOutB P = true)
    (hr : (f.params.toList.all fun t => P.readableRec t && decide (t < P.types.size)) = true) (ht : f.resultTypes = #[tb]) (hb4 : P.underlying tb = some .bool) (hv : s.vars = [])
    (hW : DataW.Whole enc P f.params.toList s.vars false W args.toList ds gs before)
    (h1 : (s.fn H (ds ++ gs)).results = [.lit (.bool true)]) (h2 : (s.fn H (ds ++ gs)).args = ds) (h3 : (s.fn H (ds ++ gs)).vars = []) (hb : Below W.heap.size W W') :
    s.post enc P f false true false false W args (.bool true) W' := by
  have hlt : ∀ p ∈ before, p.block < W.heap.size := fun p hp => hW.lt p hp
  have hW' := hW
  obtain ⟨p, q, hA, hV, rfl, _, _⟩ := hW
  rw [hv] at hV
  obtain ⟨rfl, rfl⟩ := trodVars_none hV
  refine ⟨ds, [], _, [], p, [], hW', ?_, ?_, ?_, World.keptBut_mono (fun x hx => ⟨hx, .inr (.inl (by simpa using hx))⟩) (hb.frame (· ∈ p ++ [])), fun h => by cases h⟩
  · rw [h1, ht]
    exact trodAll_mk1 (shut_bool hb4 _)
  · rw [h2]
    exact trodAll_below hl hb hr hA fun x hx => hlt x (List.mem_append.2 (.inl hx))
  · rw [h3, hv]
    exact rfl
end
theorem own : ownKnob Tryz.prog.godebug = none := by kernel_rfl
theorem laidOut : laidOutB Tryz.prog = true := by kernel_rfl
end Go.Proofs.YtdjhjfpeckndkaaGreatDoor
namespace Go.Proofs.YtdjhjfpeckndkaaGreatDoor
open Go.ChangeShapes Go.WideShapes Go.ChangeAt Go.RowKit
set_option maxRecDepth 100000 in
theorem PlexBack_row (H : Type) (enc : TypeId × Value → H) (W : World) (base : Nat) (args : Array Value) (ds gs : List (DataW H)) (before : List MemPlace)
    (hval0 : ∀ (j : Nat) t v, Tryz.f4.params[j]? = some t → args[j]? = some v → Value.okWide Tryz.prog W .any base t v)
    (hW : DataW.Whole enc Tryz.prog Tryz.f4.params.toList Rows.plexBackSpec.vars false W args.toList ds gs before) (hk : Rows.uptoSmall H (ds ++ gs) = true) :
    Calls Tryz.prog 4 args W fun e W' => ∃ v, e = .returned v ∧ Rows.plexBackSpec.post enc Tryz.prog Tryz.f4 false true false false W args v W' := by
  have hval : ∀ (j : Nat) t v, Tryz.f4.params[j]? = some t → args[j]? = some v → Value.okWide Tryz.prog W .any base t v := hval0
  have hW' := hW
  obtain ⟨p, q, hA0, hV, rfl, _, _⟩ := hW
  have hA : DataW.TrodAll enc Tryz.prog W 0 (fun _ => true) true Tryz.f4.params.toList args.toList ds p := hA0
  rw [Tryz.params4] at hA hval
  obtain ⟨v0, v1, v2, d0, d1, d2, p0, p1, p2, rfl, rfl, rfl, h0, h1, h2⟩ := trodAll_three hA
  obtain ⟨rfl, rfl⟩ := trodVars_none hV
  obtain ⟨cs, rfl, _⟩ := okWide_struct Tryz.underlying31 (hval 0 31 v0 rfl rfl)
  obtain ⟨A1, n1, c1, rfl⟩ := okWide_slice Tryz.underlying22 (hval 1 22 v1 rfl rfl)
  obtain ⟨A2, n2, c2, rfl⟩ := okWide_slice Tryz.underlying22 (hval 2 22 v2 rfl rfl)
  obtain ⟨f0, h0⟩ := h0
  obtain ⟨f1, h1⟩ := h1
  obtain ⟨f2, h2⟩ := h2
  obtain ⟨o, hov, hs⟩ := open_obj f0 _ _ h0
  obtain ⟨B1, m1, k1, us, e1, l1, l2, r1, _⟩ := open_bytes Tryz.underlying22 Tryz.underlying5 (by kernel_rfl) h1
  obtain ⟨B2, m2, k2, bs, e2, l3, l4, r2, _⟩ := open_bytes Tryz.underlying22 Tryz.underlying5 (by kernel_rfl) h2
  simp only [Value.cells, List.cons.injEq, Value.slice.injEq, and_true] at e1 e2
  obtain ⟨rfl, rfl, rfl⟩ := e1
  obtain ⟨rfl, rfl, rfl⟩ := e2
  have hsz : sizeO o ≤ 1048576 := by
    have hb : Rows.uptoBulkAll ([d0, d1, d2] ++ []) ≤ 1048576 := of_decide_eq_true hk
    simp only [List.append_nil, Rows.uptoBulkAll] at hb
    have : sizeO o ≤ Rows.uptoBulk d0 := hs
    omega
  have hcs : ∃ (kd x : Int) (t : List UInt8) (Ak : Option Addr) (nk ck : Nat) (Al : Option Addr) (nl cl : Nat) (Ad : Option Addr) (nd cd : Nat), cs = #[.int .i64 kd, .int .i64 x, .string ⟨t.toArray⟩, .slice Ak nk ck, .slice Al nl cl, .slice Ad nd cd] := by
    have hc : cs.toList = (Value.agg cs).cells.toList := rfl
    rw [← hc] at hov
    generalize hl : cs.toList = l at hov
    cases hov
    exact ⟨_, _, _, _, _, _, _, _, _, _, _, _, by rw [← Array.toArray_toList (xs := cs), hl]⟩
  obtain ⟨kd, x, t, Ak, nk, ck, Al, nl, cl, Ad, nd, cd, rfl⟩ := hcs
  refine (PlexBack_any W hov r1 r2 l1 l3 hsz).mono fun e W' ⟨he, hf⟩ => ?_
  subst he
  exact ⟨_, rfl, law_post laidOut (by kernel_rfl) (tb := 4) (by kernel_rfl) Tryz.underlying4 rfl hW' rfl rfl rfl hf.below⟩

/-- The witness' argument. -/
def backArgs : Array Value := #[.agg #[.int .i64 0, .int .i64 0, .string ⟨#[]⟩, .slice none 0 0, .slice none 0 0, .slice none 0 0], .slice none 0 0, .slice none 0 0]
noncomputable def backWorld (os : Os) : World := (World.laidAll Tryz.prog os Rows.plexBackUptoRow.laid).forCall (fun _ _ => 0) ⟨#[], backArgs, []⟩
theorem back_laid (os : Os) : laidMetH Tryz.prog Rows.plexBackUptoRow.laid (backWorld os).memory := by
  rw [MakeChecks.laidMetH_plain _ _ _ (by kernel_rfl)]
  exact laidMet_laidAll _ (by kernel_rfl) (by kernel_rfl)
theorem back_reads (os : Os) {H : Type} (enc : TypeId × Value → H) : DataW.whole enc Tryz.prog (backWorld os).memory Tryz.f4.params.toList Rows.plexBackSpec.vars false backArgs.toList 8 = some ([.agg [.lit (.int .i64 0), .lit (.int .i64 0), .lit (.string []), .nil, .nil, .nil], .nil, .nil], [], []) := by kernel_rfl
theorem back_sized (os : Os) {H : Type} (enc : TypeId × Value → H) : (Rows.OpenSpec.upto Rows.plexBackSpec).bare.sizedB enc Tryz.prog Tryz.f4 false (backWorld os).memory backArgs 8 = true := by kernel_rfl
theorem back_shaped (os : Os) : (backWorld os).Shaped Tryz.prog := World.shaped_of_ZipB (by kernel_rfl) (by kernel_rfl)
theorem back_ok (os : Os) : Input.okWideB Tryz.prog (backWorld os) 4 ⟨#[], backArgs, []⟩ = true := by kernel_rfl
theorem back_pre (os : Os) {H : Type} (enc : TypeId × Value → H) : (Rows.OpenSpec.upto Rows.plexBackSpec).preRow enc Tryz.prog Tryz.f4 Rows.plexBackUptoRow.domain false Rows.plexBackUptoRow.laid (backWorld os).memory backArgs :=
  OpenSpec.preRow_of_cond 8 (back_reads os enc) (by kernel_rfl) (fun k hk => by cases hk; kernel_rfl) (back_sized os enc) (back_laid os)
set_option maxRecDepth 100000 in
theorem PlexBack_lifted (os : Os) (started : os.Started) (H : Type) (enc : TypeId × Value → H) (F : Stop.Interp) :
    ReturnsInHanded {} Tryz.checked os 4 .any ((Rows.OpenSpec.upto Rows.plexBackSpec).preRow enc Tryz.prog Tryz.f4 Rows.plexBackUptoRow.domain false Rows.plexBackUptoRow.laid) (((Rows.OpenSpec.upto Rows.plexBackSpec).at F).post enc Tryz.prog Tryz.f4 false true false false) := by
  refine returnsInHanded_of_row (C := Tryz.checked) (s := Rows.OpenSpec.upto Rows.plexBackSpec) own started (by kernel_rfl) Tryz.func4
    ⟨World.laidAll Tryz.prog os Rows.plexBackUptoRow.laid, fun _ _ => 0, ⟨#[], backArgs, []⟩, World.laidAll_os _ _ _, back_shaped os, (Input.okWide_of_okWideB (base := 0) (back_ok os)).1, (Input.okWide_of_okWideB (back_ok os)).2, back_pre os enc, by
      simp only [Assume.holds]
      exact ⟨by simp, by simp, fun _ => Modest.zero, by simp, by simp⟩⟩ ?_
  intro W base args ds gs before hval hW _ hcond _ _ _ _
  exact PlexBack_row H enc W base args ds gs before hval hW (hcond _ rfl)
end Go.Proofs.YtdjhjfpeckndkaaGreatDoor
