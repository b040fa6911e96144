/- Contracts: guard; Object's closure. -/
import Derived.Test.YtdjhjfpeckndkaaGreatDoorBkObjW
set_option linter.unusedVariables false
set_option linter.unusedSimpArgs false
namespace Go.Proofs.YtdjhjfpeckndkaaGreatDoor
open Go.RowKit
set_option maxHeartbeats 400000 in
theorem guard_nil (p : Addr) (w : World) : Calls Tryz.prog 67 #[.nilIface, .pointer (some p)] w fun e w' => e = .returned (.tuple #[]) ∧ w = w' := by
  go_enter Tryz.func67, Tryz.ntmps67
  go_wp2
  refine bodyPost_ret (results_none rfl _ _ _) rfl ⟨rfl, rfl⟩
set_option maxHeartbeats 400000 in
theorem guard_errno (g : Nat) (v : Value) (x : Int) (w : World) (hB : Blk w g 35 #[v]) :
    Calls Tryz.prog 67 #[.iface 35 (.int .i64 x), .pointer (some ⟨g, 0, none⟩)] w fun e w' => e = .returned (.tuple #[]) ∧ w.setCell ⟨g, 0, none⟩ (.int .i64 x) = w' := by
  have hta := assert_errno (.int .i64 x)
  have e2 : w.cell? ⟨g, 0, none⟩ = some v := by rw [hB.cell]; rfl
  have ez2 := hB.frozen 0
  go_enter Tryz.func67, Tryz.ntmps67
  go_wp2
  first | (go_end0; exact ⟨rfl, rfl⟩) | refine bodyPost_ret (results_none rfl _ _ _) rfl ⟨rfl, rfl⟩
set_option maxRecDepth 100000 in
set_option maxHeartbeats 1000000 in
theorem catchO_idle (g2 : Nat) (p0 p1 : Addr) (w : World) (h2 : Blk w g2 35 #[.int .i64 0]) :
    CallsD Tryz.prog 66 #[.pointer (some ⟨g2, 0, none⟩), .pointer (some p0), .pointer (some p1)] .returning w fun e u' w' => e = .returned (.tuple #[]) ∧ u' = .returning ∧ w' = w := by
  have e2 : w.cell? ⟨g2, 0, none⟩ = some (.int .i64 0) := by rw [h2.cell]; rfl
  refine callsD_of_wpS Tryz.func66 rfl fun c₀ cs hu => ?_
  apply wpS_seq
  apply wpS_region
  simp [wpOpsS, go_sem, recoverD, hu, Tryz.ntmps66, Exit.thenS]
  refine (guard_nil _ w).mono ?_
  rintro e w' ⟨rfl, rfl⟩
  simp [Exit.thenS]
  apply wpS_seq
  apply wpS_region
  simp [wpOpsS, go_sem, recoverD, hu, Tryz.ntmps66, Exit.thenS, Array.replicate, e2]
  refine wpS_cond (t := false) (by simp [Act.eval, Array.replicate]) ?_
  simp only [Bool.false_eq_true, if_false]
  refine wpS_of_wp (wp_skip ?_)
  cases c₀
  simp_all [bodyPostS, results, Tryz.results66]
abbrev zObj : Array Value := #[.int .i64 0, .int .i64 0, .string ⟨#[]⟩, .slice none 0 0, .slice none 0 0, .slice none 0 0]
set_option maxRecDepth 100000 in
set_option maxHeartbeats 1000000 in
theorem catchO_errno (g0 g1 g2 : Nat) (v0 v1 v2 v3 v4 v5 v6 v7 : Value) (x : Int) (hx : ¬ x = 0) (older : List PanicEntry) (w : World) (h0 : Blk w g0 31 #[v0, v1, v2, v3, v4, v5]) (h1 : Blk w g1 3 #[v6]) (h2 : Blk w g2 35 #[v7]) :
    CallsD Tryz.prog 66 #[.pointer (some ⟨g2, 0, none⟩), .pointer (some ⟨g0, 0, none⟩), .pointer (some ⟨g1, 0, none⟩)]
      (.panicking ({ v := .iface 35 (.int .i64 x), recovered := false } :: older)) w fun e u' w' =>
      e = .returned (.tuple #[]) ∧ u' = .panicking ({ v := .iface 35 (.int .i64 x), recovered := true } :: older) ∧
      Blk w' g0 31 zObj ∧ Blk w' g1 3 #[.int .i64 0] ∧ Blk w' g2 35 #[.int .i64 x] ∧ Fr [g0, g1, g2] w w' := by
  have n01 : g0 ≠ g1 := h0.ne_ h1 (by decide)
  have n02 : g0 ≠ g2 := h0.ne_ h2 (by decide)
  have n12 : g1 ≠ g2 := h1.ne_ h2 (by decide)
  refine callsD_of_wpS Tryz.func66 rfl fun c₀ cs hu => ?_
  apply wpS_seq
  apply wpS_region
  simp [wpOpsS, go_sem, recoverD, hu, Tryz.ntmps66, Exit.thenS]
  refine (guard_errno g2 v7 x w h2).mono ?_
  rintro e w' ⟨rfl, rfl⟩
  have k0 := h0.far (p := ⟨g2, 0, none⟩) n02 (.int .i64 x)
  have k1 := h1.far (p := ⟨g2, 0, none⟩) n12 (.int .i64 x)
  have k2 : Blk (w.setCell ⟨g2, 0, none⟩ (.int .i64 x)) g2 35 #[.int .i64 x] := h2.set_ 0 _
  have hf : Fr [g0, g1, g2] w (w.setCell ⟨g2, 0, none⟩ (.int .i64 x)) := (Fr.refl _ _).setCell (.inl (by simp)) _
  generalize w.setCell ⟨g2, 0, none⟩ (.int .i64 x) = w1 at *
  have e2 : w1.cell? ⟨g2, 0, none⟩ = some (.int .i64 x) := by rw [k2.cell]; rfl
  have d1 : w1.cell? ⟨g1, 0, none⟩ = some v6 := by rw [k1.cell]; rfl
  have dz1 := k1.frozen 0
  obtain ⟨b0, b1, b2, b3, b4, b5, bz⟩ := k0.c6
  have hxb : (x != 0) = true := by simp [hx]
  simp [Exit.thenS]
  apply wpS_seq
  apply wpS_region
  simp [wpOpsS, go_sem, recoverD, hu, Tryz.ntmps66, Exit.thenS, Array.replicate, e2, hxb]
  refine wpS_cond (t := true) (by simp [Act.eval, Array.replicate]) ?_
  simp only [if_true]
  apply wpS_region
  simp [wpOpsS, go_sem, Array.replicate, Exit.thenS, b0, b1, b2, b3, b4, b5, bz, d1, dz1, n01, n02, n12, Ne.symm n01, Ne.symm n02, Ne.symm n12]
  simp [bodyPostS, results, Tryz.results66]
  refine ⟨?_, ?_, ?_, ?_⟩
  · have k := (((((k0.set_ 0 (.int .i64 0)).set_ 1 (.int .i64 0)).set_ 2 (.string ⟨#[]⟩)).set_ 3 (.slice none 0 0)).set_ 4 (.slice none 0 0)).set_ 5 (.slice none 0 0)
    exact k.far (p := ⟨g1, 0, none⟩) n01 _
  · exact ((((((k1.far (p := ⟨g0, 0, none⟩) (Ne.symm n01) _).far (p := ⟨g0, 1, none⟩) (Ne.symm n01) _).far (p := ⟨g0, 2, none⟩) (Ne.symm n01) _).far (p := ⟨g0, 3, none⟩) (Ne.symm n01) _).far (p := ⟨g0, 4, none⟩) (Ne.symm n01) _).far (p := ⟨g0, 5, none⟩) (Ne.symm n01) _).set_ 0 _
  · exact ((((((k2.far (p := ⟨g0, 0, none⟩) (Ne.symm n02) _).far (p := ⟨g0, 1, none⟩) (Ne.symm n02) _).far (p := ⟨g0, 2, none⟩) (Ne.symm n02) _).far (p := ⟨g0, 3, none⟩) (Ne.symm n02) _).far (p := ⟨g0, 4, none⟩) (Ne.symm n02) _).far (p := ⟨g0, 5, none⟩) (Ne.symm n02) _).far (p := ⟨g1, 0, none⟩) (Ne.symm n12) _
  · exact (obj_frame hf (.inl (by simp))).setCell (p := ⟨g1, 0, none⟩) (.inl (by simp)) _
end Go.Proofs.YtdjhjfpeckndkaaGreatDoor
