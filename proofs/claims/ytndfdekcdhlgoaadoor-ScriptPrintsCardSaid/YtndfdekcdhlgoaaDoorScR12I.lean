/- Contracts: the reference's SoundItem: colour of four parts. -/
import Derived.Test.YtndfdekcdhlgoaaDoorScR12F
set_option linter.unusedVariables false
set_option linter.unusedSimpArgs false
namespace Go.Proofs.YtndfdekcdhlgoaaDoor
open Go.RowKit
set_option maxRecDepth 100000 in
set_option maxHeartbeats 8000000 in
theorem soundItem_4 {w0 : World} {N : Nat → Prop} {kd p0 p1 p2 p3 pw pc pj pm pf fo m0 m1 m2 m3 m4 m5 : Int} {path : List SegD} {clips : List ClipD} {dash : List Int} {bytes : List UInt8} {Ap Ac Ad Ab : Option Addr} {np cp nc cc nd cd nb cb : Nat}
    (hs : ItemS w0 N ⟨kd, path, ⟨4, p0, p1, p2, p3⟩, clips, ⟨pw, pc, pj, pm, dash, pf⟩, fo, ⟨m0, m1, m2, m3, m4, m5⟩, bytes⟩ Ap np cp Ac nc cc Ad nd cd Ab nb cb) (w : World) (hf : Fr [] w0 w) :
    Calls Tryd.prog 35 #[.agg #[.int .i64 kd, .slice Ap np cp, .int .i64 4, .int .i64 p0, .int .i64 p1, .int .i64 p2, .int .i64 p3, .slice Ac nc cc, .int .i64 pw, .int .i64 pc, .int .i64 pj, .int .i64 pm, .slice Ad nd cd, .int .i64 pf, .int .i64 fo, .int .i64 m0, .int .i64 m1, .int .i64 m2, .int .i64 m3, .int .i64 m4, .int .i64 m5, .slice Ab nb cb]] w fun e w' => e = .returned (.bool (itemB ⟨kd, path, ⟨4, p0, p1, p2, p3⟩, clips, ⟨pw, pc, pj, pm, dash, pf⟩, fo, ⟨m0, m1, m2, m3, m4, m5⟩, bytes⟩)) ∧ Fr [] w w' := by
  obtain ⟨d, hd⟩ : ∃ d : ItemD, d = ⟨kd, path, ⟨4, p0, p1, p2, p3⟩, clips, ⟨pw, pc, pj, pm, dash, pf⟩, fo, ⟨m0, m1, m2, m3, m4, m5⟩, bytes⟩ := ⟨_, rfl⟩
  obtain ⟨R, hR⟩ : ∃ R, R = itemB d := ⟨_, rfl⟩
  rw [← hd] at hs
  rw [← hd, ← hR]
  have HR := hide hR
  have HD := hide hd
  have HSS := hide hs
  clear hR hd hs
  go_enter Tryd.func35, Tryd.ntmps35
  go_wp2
  obtain ⟨g, hg⟩ : ∃ g, g = w.heap.size := ⟨_, rfl⟩
  obtain ⟨q, hq⟩ : ∃ q, q = w.heap.size + 1 := ⟨_, rfl⟩
  obtain ⟨W1, hW1⟩ : ∃ W1, W1 = (w.alloc (.cells #[.int .i64 kd, .slice Ap np cp, .int .i64 4, .int .i64 p0, .int .i64 p1, .int .i64 p2, .int .i64 p3, .slice Ac nc cc, .int .i64 pw, .int .i64 pc, .int .i64 pj, .int .i64 pm, .slice Ad nd cd, .int .i64 pf, .int .i64 fo, .int .i64 m0, .int .i64 m1, .int .i64 m2, .int .i64 m3, .int .i64 m4, .int .i64 m5, .slice Ab nb cb] 43)).alloc (.cells #[.int .i64 4, .int .i64 p0, .int .i64 p1, .int .i64 p2, .int .i64 p3] 35) := ⟨_, rfl⟩
  have hB : Blk W1 g 43 #[.int .i64 kd, .slice Ap np cp, .int .i64 4, .int .i64 p0, .int .i64 p1, .int .i64 p2, .int .i64 p3, .slice Ac nc cc, .int .i64 pw, .int .i64 pc, .int .i64 pj, .int .i64 pm, .slice Ad nd cd, .int .i64 pf, .int .i64 fo, .int .i64 m0, .int .i64 m1, .int .i64 m2, .int .i64 m3, .int .i64 m4, .int .i64 m5, .slice Ab nb cb] := by rw [hW1, hg]; exact (Blk.new _ _ _).alloc _
  have hBq : Blk W1 q 35 #[.int .i64 4, .int .i64 p0, .int .i64 p1, .int .i64 p2, .int .i64 p3] := by rw [hW1, hq]; exact Blk.new3 _ _ _ (by simp)
  have hf1 : Fr [] w W1 := by rw [hW1]; exact (by repeat (first | with_reducible exact Fr.refl _ _ | with_reducible assumption | with_reducible refine Fr.drewN ?_ _ | with_reducible refine Fr.drew ?_ | with_reducible refine Fr.alloc ?_ _ | ((with_reducible refine Fr.setCell ?_ ?_ _) <;> first | (apply Or.inl; simp; done) | (apply Or.inr; simp; done) | (apply Or.inr; simp; omega) | skip) | (refine Fr.then0 ?_ (by with_reducible assumption)) | (refine Fr.trans ?_ (by with_reducible assumption))))
  rw [← hW1, ← hq, ← hg]
  clear hW1 hg hq
  generalize Value.agg #[.int .i64 kd, .slice Ap np cp, .int .i64 4, .int .i64 p0, .int .i64 p1, .int .i64 p2, .int .i64 p3, .slice Ac nc cc, .int .i64 pw, .int .i64 pc, .int .i64 pj, .int .i64 pm, .slice Ad nd cd, .int .i64 pf, .int .i64 fo, .int .i64 m0, .int .i64 m1, .int .i64 m2, .int .i64 m3, .int .i64 m4, .int .i64 m5, .slice Ab nb cb] = ag
  generalize Value.agg #[.int .i64 4, .int .i64 p0, .int .i64 p1, .int .i64 p2, .int .i64 p3] = ac
  go_loopw [4] (fun j w2 => ∃ m : Nat, m ≤ 4 ∧ j = .int .i64 m ∧ w2 = W1 ∧ Hid (∀ z, z < m → prtB 4 z ((⟨4, p0, p1, p2, p3⟩ : ColD).p z) = true)) (fun j _ => 4 - (intOf j).toNat)
  case atStart => exact ⟨0, by omega, rfl, rfl, hide (fun z hz => absurd hz (by omega))⟩
  case round =>
    obtain ⟨m, hm, rfl, rfl, hpt⟩ := hrel
    have c7 : wr.cell? ⟨g, 7, none⟩ = some (.slice Ac nc cc) := hB.cell 7
    have e0 : wr.cell? ⟨q, 0, none⟩ = some (.int .i64 4) := hBq.cell 0
    have e1 : wr.cell? ⟨q, 1, none⟩ = some (.int .i64 p0) := hBq.cell 1
    have e2 : wr.cell? ⟨q, 2, none⟩ = some (.int .i64 p1) := hBq.cell 2
    have e3 : wr.cell? ⟨q, 3, none⟩ = some (.int .i64 p2) := hBq.cell 3
    have e4 : wr.cell? ⟨q, 4, none⟩ = some (.int .i64 p3) := hBq.cell 4
    rcases (by omega : m = 0 ∨ m = 1 ∨ m = 2 ∨ m = 3 ∨ m = 4) with rfl | rfl | rfl | rfl | rfl
    · rw [show ((0 : Nat) : Int) = 0 from rfl]
      by_cases h1 : p0 < 0
      · have d1 : decide (p0 < 0) = true := by simpa using h1
        go_wp2
        go_ret; exact ⟨by rw [show R = false by rw [HR.out, HD.out]; exact item_col (colB_not _ 0 (by omega) (show prtB 4 0 p0 = false from prtB_false (by omega)))]; rfl, hf1⟩
      by_cases h2 : 65536 < p0
      · have d1 : decide (p0 < 0) = false := by simpa using h1
        have d2 : decide (65536 < p0) = true := by simpa using h2
        go_wp2
        go_ret; exact ⟨by rw [show R = false by rw [HR.out, HD.out]; exact item_col (colB_not _ 0 (by omega) (show prtB 4 0 p0 = false from prtB_false (by omega)))]; rfl, hf1⟩
      have d1 : decide (p0 < 0) = false := by simpa using h1
      have d2 : decide (65536 < p0) = false := by simpa using h2
      go_wp2
      exact ⟨⟨1, by omega, rfl, (by trivial), hide (upto_succ2 hpt.out (show prtB 4 0 p0 = true from prtB_true (by omega) (by omega)))⟩, by simp [intOf]⟩
    · rw [show ((1 : Nat) : Int) = 1 from rfl]
      by_cases h1 : p1 < 0
      · have d1 : decide (p1 < 0) = true := by simpa using h1
        go_wp2
        go_ret; exact ⟨by rw [show R = false by rw [HR.out, HD.out]; exact item_col (colB_not _ 1 (by omega) (show prtB 4 1 p1 = false from prtB_false (by omega)))]; rfl, hf1⟩
      by_cases h2 : 65536 < p1
      · have d1 : decide (p1 < 0) = false := by simpa using h1
        have d2 : decide (65536 < p1) = true := by simpa using h2
        go_wp2
        go_ret; exact ⟨by rw [show R = false by rw [HR.out, HD.out]; exact item_col (colB_not _ 1 (by omega) (show prtB 4 1 p1 = false from prtB_false (by omega)))]; rfl, hf1⟩
      have d1 : decide (p1 < 0) = false := by simpa using h1
      have d2 : decide (65536 < p1) = false := by simpa using h2
      go_wp2
      exact ⟨⟨2, by omega, rfl, (by trivial), hide (upto_succ2 hpt.out (show prtB 4 1 p1 = true from prtB_true (by omega) (by omega)))⟩, by simp [intOf]⟩
    · rw [show ((2 : Nat) : Int) = 2 from rfl]
      by_cases h1 : p2 < 0
      · have d1 : decide (p2 < 0) = true := by simpa using h1
        go_wp2
        go_ret; exact ⟨by rw [show R = false by rw [HR.out, HD.out]; exact item_col (colB_not _ 2 (by omega) (show prtB 4 2 p2 = false from prtB_false (by omega)))]; rfl, hf1⟩
      by_cases h2 : 65536 < p2
      · have d1 : decide (p2 < 0) = false := by simpa using h1
        have d2 : decide (65536 < p2) = true := by simpa using h2
        go_wp2
        go_ret; exact ⟨by rw [show R = false by rw [HR.out, HD.out]; exact item_col (colB_not _ 2 (by omega) (show prtB 4 2 p2 = false from prtB_false (by omega)))]; rfl, hf1⟩
      have d1 : decide (p2 < 0) = false := by simpa using h1
      have d2 : decide (65536 < p2) = false := by simpa using h2
      go_wp2
      exact ⟨⟨3, by omega, rfl, (by trivial), hide (upto_succ2 hpt.out (show prtB 4 2 p2 = true from prtB_true (by omega) (by omega)))⟩, by simp [intOf]⟩
    · rw [show ((3 : Nat) : Int) = 3 from rfl]
      by_cases h1 : p3 < 0
      · have d1 : decide (p3 < 0) = true := by simpa using h1
        go_wp2
        go_ret; exact ⟨by rw [show R = false by rw [HR.out, HD.out]; exact item_col (colB_not _ 3 (by omega) (show prtB 4 3 p3 = false from prtB_false (by omega)))]; rfl, hf1⟩
      by_cases h2 : 65536 < p3
      · have d1 : decide (p3 < 0) = false := by simpa using h1
        have d2 : decide (65536 < p3) = true := by simpa using h2
        go_wp2
        go_ret; exact ⟨by rw [show R = false by rw [HR.out, HD.out]; exact item_col (colB_not _ 3 (by omega) (show prtB 4 3 p3 = false from prtB_false (by omega)))]; rfl, hf1⟩
      have d1 : decide (p3 < 0) = false := by simpa using h1
      have d2 : decide (65536 < p3) = false := by simpa using h2
      go_wp2
      exact ⟨⟨4, by omega, rfl, (by trivial), hide (upto_succ2 hpt.out (show prtB 4 3 p3 = true from prtB_true (by omega) (by omega)))⟩, by simp [intOf]⟩
    · rw [show ((4 : Nat) : Int) = 4 from rfl]
      have HC : Hid (colB d.col = true) := hide (by rw [HD.out]; exact colB_of _ (by simp) hpt.out)
      clear hpt e0 e1 e2 e3 e4
      have hlc := HSS.out.clips.len
      by_cases hnc : 16 < nc
      · have dn : decide ((16 : Int) < (nc : Int)) = true := by simp; omega
        have HF : Hid (R = false) := hide (by rw [HR.out]; exact item_clips (by unfold clipsB; rw [hlc, decide_eq_false (by omega)]; rfl))
        go_wp2
        go_ret
        exact ⟨by rw [HF.out]; rfl, hf1⟩
      have dn : decide ((16 : Int) < (nc : Int)) = false := by simp; omega
      have HLC := hide hlc
      clear hlc
      go_wp2
      go_loopw [5] (fun i w2 => ∃ k : Nat, k ≤ nc ∧ i = .int .i64 k ∧ Fr [] wr w2 ∧ Hid ((d.clips.take k).all clipB = true)) (fun i _ => nc - (intOf i).toNat)
      case atStart => exact ⟨0, Nat.zero_le _, rfl, Fr.refl _ _, hide (by simp)⟩
      case round =>
        obtain ⟨k, hk, rfl, hfr, hall⟩ := hrel
        have hB2 := hB.keep hfr (by simp)
        rename_i wq hrelq
        have c7 : wr.cell? ⟨g, 7, none⟩ = some (.slice Ac nc cc) := hB2.cell 7
        have hfw := hf1.trans hfr
        by_cases hlt : k < nc
        · have hdk : decide ((k : Int) < (nc : Int)) = true := by simp; omega
          obtain ⟨ad, cl, Aq, nq, cq, rfl, hcl, hq1, hq2, hq3, a0, a1⟩ := clip_elem (HSS.out.keep (hf.trans hfw) (by simp)).clips hlt
          have HP := hide (fun W (h : Fr [] wr W) => soundPath_any (c := cq) hq3 W h)
          have hbad : clipB cl = false → R = false := fun h => by
            rw [HR.out]
            refine item_clips ?_
            unfold clipsB
            have : d.clips.all clipB = false := by
              rw [Bool.eq_false_iff]; intro ha
              have := List.all_eq_true.1 ha cl (List.mem_of_getElem? hcl)
              rw [h] at this; cases this
            rw [this]; simp
          have HS1 := hide (show d.clips.take (k + 1) = d.clips.take k ++ [cl] by rw [List.take_add_one, hcl]; rfl)
          have HLQ := hide hq3.len
          have HBAD := hide hbad
          clear hq3 hcl hbad
          by_cases hz : nq = 0
          · have dz : ((nq : Int) == 0) = true := by simp; omega
            have HF : Hid (R = false) := hide (HBAD.out (by unfold clipB; rw [decide_eq_false (by simp [← List.length_eq_zero_iff, HLQ.out, hz])]; rfl))
            go_wp2
            go_ret
            exact ⟨by rw [HF.out]; rfl, hfw⟩
          · have dz : ((nq : Int) == 0) = false := by simp; omega
            have HNE : Hid (cl.path ≠ []) := hide (fun h => hz (by rw [← HLQ.out, h]; rfl))
            cases hpb : pathB cl.path
            · have HF : Hid (R = false) := hide (HBAD.out (by unfold clipB; rw [hpb]; simp))
              rw [hpb] at HP
              clear hpb
              go_wp2_with (go_at_call 50; refine (HP.out _ (by repeat (first | with_reducible exact Fr.refl _ _ | with_reducible assumption | with_reducible refine Fr.drewN ?_ _ | with_reducible refine Fr.drew ?_ | with_reducible refine Fr.alloc ?_ _ | ((with_reducible refine Fr.setCell ?_ ?_ _) <;> first | (apply Or.inl; simp; done) | (apply Or.inr; simp; done) | (apply Or.inr; simp; omega) | skip) | (refine Fr.then0 ?_ (by with_reducible assumption)) | (refine Fr.trans ?_ (by with_reducible assumption))))).mono ?_; rintro e w5 ⟨rfl, hf5⟩)
              go_ret
              exact ⟨by rw [HF.out]; rfl, hfw.trans (by repeat (first | with_reducible exact Fr.refl _ _ | with_reducible assumption | with_reducible refine Fr.drewN ?_ _ | with_reducible refine Fr.drew ?_ | with_reducible refine Fr.alloc ?_ _ | ((with_reducible refine Fr.setCell ?_ ?_ _) <;> first | (apply Or.inl; simp; done) | (apply Or.inr; simp; done) | (apply Or.inr; simp; omega) | skip) | (refine Fr.then0 ?_ (by with_reducible assumption)) | (refine Fr.trans ?_ (by with_reducible assumption))))⟩
            · have HA : Hid ((d.clips.take (k + 1)).all clipB = true) := hide (by rw [HS1.out, List.all_append, hall.out]; simp [clipB, hpb, HNE.out])
              rw [hpb] at HP
              clear hpb
              go_wp2_with (go_at_call 50; refine (HP.out _ (by repeat (first | with_reducible exact Fr.refl _ _ | with_reducible assumption | with_reducible refine Fr.drewN ?_ _ | with_reducible refine Fr.drew ?_ | with_reducible refine Fr.alloc ?_ _ | ((with_reducible refine Fr.setCell ?_ ?_ _) <;> first | (apply Or.inl; simp; done) | (apply Or.inr; simp; done) | (apply Or.inr; simp; omega) | skip) | (refine Fr.then0 ?_ (by with_reducible assumption)) | (refine Fr.trans ?_ (by with_reducible assumption))))).mono ?_; rintro e w5 ⟨rfl, hf5⟩)
              exact ⟨⟨k + 1, by omega, by go_num, hfr.trans (by repeat (first | with_reducible exact Fr.refl _ _ | with_reducible assumption | with_reducible refine Fr.drewN ?_ _ | with_reducible refine Fr.drew ?_ | with_reducible refine Fr.alloc ?_ _ | ((with_reducible refine Fr.setCell ?_ ?_ _) <;> first | (apply Or.inl; simp; done) | (apply Or.inr; simp; done) | (apply Or.inr; simp; omega) | skip) | (refine Fr.then0 ?_ (by with_reducible assumption)) | (refine Fr.trans ?_ (by with_reducible assumption)))), HA⟩, by simp [intOf]; omega⟩
        · have hdk : decide ((k : Int) < (nc : Int)) = false := by simp; omega
          have HF : Hid (R = restB d) := hide (by rw [HR.out]; exact item_rest HC.out (by unfold clipsB; rw [HLC.out, decide_eq_true (by omega)]; have := hall.out; rw [List.take_of_length_le (by rw [HLC.out]; omega)] at this; rw [this]; rfl))
          have hnp := fun W => noPen_any ⟨pw, pc, pj, pm, dash, pf⟩ (A := Ad) (n := nd) (c := cd) (by have h1 := HSS.out.dash.len1; rw [HD.out] at h1; simpa using h1) W
          unfold PenV at hnp
          have HNP := hide hnp
          clear hnp hall c7
          have y0 : wr.cell? ⟨g, 0, none⟩ = some (.int .i64 kd) := hB2.cell 0
          have y1 : wr.cell? ⟨g, 1, none⟩ = some (.slice Ap np cp) := hB2.cell 1
          have y2 : wr.cell? ⟨g, 2, none⟩ = some (.int .i64 4) := hB2.cell 2
          have y3 : wr.cell? ⟨g, 3, none⟩ = some (.int .i64 p0) := hB2.cell 3
          have y4 : wr.cell? ⟨g, 4, none⟩ = some (.int .i64 p1) := hB2.cell 4
          have y5 : wr.cell? ⟨g, 5, none⟩ = some (.int .i64 p2) := hB2.cell 5
          have y6 : wr.cell? ⟨g, 6, none⟩ = some (.int .i64 p3) := hB2.cell 6
          have y7 : wr.cell? ⟨g, 7, none⟩ = some (.slice Ac nc cc) := hB2.cell 7
          have y8 : wr.cell? ⟨g, 8, none⟩ = some (.int .i64 pw) := hB2.cell 8
          have y9 : wr.cell? ⟨g, 9, none⟩ = some (.int .i64 pc) := hB2.cell 9
          have y10 : wr.cell? ⟨g, 10, none⟩ = some (.int .i64 pj) := hB2.cell 10
          have y11 : wr.cell? ⟨g, 11, none⟩ = some (.int .i64 pm) := hB2.cell 11
          have y12 : wr.cell? ⟨g, 12, none⟩ = some (.slice Ad nd cd) := hB2.cell 12
          have y13 : wr.cell? ⟨g, 13, none⟩ = some (.int .i64 pf) := hB2.cell 13
          have y14 : wr.cell? ⟨g, 14, none⟩ = some (.int .i64 fo) := hB2.cell 14
          have y15 : wr.cell? ⟨g, 15, none⟩ = some (.int .i64 m0) := hB2.cell 15
          have y16 : wr.cell? ⟨g, 16, none⟩ = some (.int .i64 m1) := hB2.cell 16
          have y17 : wr.cell? ⟨g, 17, none⟩ = some (.int .i64 m2) := hB2.cell 17
          have y18 : wr.cell? ⟨g, 18, none⟩ = some (.int .i64 m3) := hB2.cell 18
          have y19 : wr.cell? ⟨g, 19, none⟩ = some (.int .i64 m4) := hB2.cell 19
          have y20 : wr.cell? ⟨g, 20, none⟩ = some (.int .i64 m5) := hB2.cell 20
          have y21 : wr.cell? ⟨g, 21, none⟩ = some (.slice Ab nb cb) := hB2.cell 21
          have hpl := HSS.out.path.len
          have hbl := HSS.out.bytes.len
          have HSP := hide (fun W (h : Fr [] wr W) => soundPath_any (c := cp) (HSS.out.keep (hf.trans hfw) (by simp)).path W h)
          have HPN := hide (fun W (h : Fr [] wr W) => soundPen_any ⟨pw, pc, pj, pm, dash, pf⟩ (c := cd) (by have h1 := (HSS.out.keep (hf.trans hfw) (by simp)).dash; rw [HD.out] at h1; exact h1) W h)
          unfold PenV at HPN
          have HPL := hide hpl
          have HBL := hide hbl
          clear hpl hbl
          by_cases hk4 : kd = 4
          · subst hk4
            go_wp2_with (go_at_call 51; refine (HNP.out _).mono ?_; rintro e w5 ⟨rfl, hf5⟩; have hB5 := hB2.keep hf5 (by simp); clear y0 y1 y2 y3 y4 y5 y6 y7 y8 y9 y10 y11 y12 y13 y14 y15 y16 y17 y18 y19 y20 y21; have z0 : w5.cell? ⟨g, 0, none⟩ = some (.int .i64 4) := hB5.cell 0; have z1 : w5.cell? ⟨g, 1, none⟩ = some (.slice Ap np cp) := hB5.cell 1; have z2 : w5.cell? ⟨g, 2, none⟩ = some (.int .i64 4) := hB5.cell 2; have z3 : w5.cell? ⟨g, 3, none⟩ = some (.int .i64 p0) := hB5.cell 3; have z4 : w5.cell? ⟨g, 4, none⟩ = some (.int .i64 p1) := hB5.cell 4; have z5 : w5.cell? ⟨g, 5, none⟩ = some (.int .i64 p2) := hB5.cell 5; have z6 : w5.cell? ⟨g, 6, none⟩ = some (.int .i64 p3) := hB5.cell 6; have z7 : w5.cell? ⟨g, 7, none⟩ = some (.slice Ac nc cc) := hB5.cell 7; have z8 : w5.cell? ⟨g, 8, none⟩ = some (.int .i64 pw) := hB5.cell 8; have z9 : w5.cell? ⟨g, 9, none⟩ = some (.int .i64 pc) := hB5.cell 9; have z10 : w5.cell? ⟨g, 10, none⟩ = some (.int .i64 pj) := hB5.cell 10; have z11 : w5.cell? ⟨g, 11, none⟩ = some (.int .i64 pm) := hB5.cell 11; have z12 : w5.cell? ⟨g, 12, none⟩ = some (.slice Ad nd cd) := hB5.cell 12; have z13 : w5.cell? ⟨g, 13, none⟩ = some (.int .i64 pf) := hB5.cell 13; have z14 : w5.cell? ⟨g, 14, none⟩ = some (.int .i64 fo) := hB5.cell 14; have z15 : w5.cell? ⟨g, 15, none⟩ = some (.int .i64 m0) := hB5.cell 15; have z16 : w5.cell? ⟨g, 16, none⟩ = some (.int .i64 m1) := hB5.cell 16; have z17 : w5.cell? ⟨g, 17, none⟩ = some (.int .i64 m2) := hB5.cell 17; have z18 : w5.cell? ⟨g, 18, none⟩ = some (.int .i64 m3) := hB5.cell 18; have z19 : w5.cell? ⟨g, 19, none⟩ = some (.int .i64 m4) := hB5.cell 19; have z20 : w5.cell? ⟨g, 20, none⟩ = some (.int .i64 m5) := hB5.cell 20; have z21 : w5.cell? ⟨g, 21, none⟩ = some (.slice Ab nb cb) := hB5.cell 21)
            generalize hnb : nopenB ⟨pw, pc, pj, pm, dash, pf⟩ = NB
            have HF4 : Hid (R = restB4 [m0, m1, m2, m3, m4, m5] fo nb np NB) := hide (rest_four HF.out HD.out HPL.out HBL.out hnb)
            clear hnb
            go_loopw [7] (fun i w2 => ∃ k : Nat, k ≤ 6 ∧ i = .int .i64 k ∧ Fr [] w5 w2 ∧ Hid (∀ z, z < k → fitsI ([m0, m1, m2, m3, m4, m5].getD z 0) = true)) (fun i _ => 6 - (intOf i).toNat)
            case atStart => exact ⟨0, Nat.zero_le _, rfl, Fr.refl _ _, hide (fun z hz => absurd hz (by omega))⟩
            case round =>
              obtain ⟨m, hm, rfl, hfr6, hpt⟩ := hrel
              have hB6 := hB5.keep hfr6 (by simp)
              have hfw6 := (hfw.trans hf5).trans hfr6
              clear z0 z1 z2 z3 z4 z5 z6 z7 z8 z9 z10 z11 z12 z13 z14 z15 z16 z17 z18 z19 z20 z21
              have x1 : wr.cell? ⟨g, 1, none⟩ = some (.slice Ap np cp) := hB6.cell 1
              have x14 : wr.cell? ⟨g, 14, none⟩ = some (.int .i64 fo) := hB6.cell 14
              have x21 : wr.cell? ⟨g, 21, none⟩ = some (.slice Ab nb cb) := hB6.cell 21
              rcases (by omega : m = 0 ∨ m = 1 ∨ m = 2 ∨ m = 3 ∨ m = 4 ∨ m = 5 ∨ m = 6) with rfl | rfl | rfl | rfl | rfl | rfl | rfl
              · rw [show ((0 : Nat) : Int) = 0 from rfl]
                have x15 : wr.cell? ⟨g, 15, none⟩ = some (.int .i64 m0) := hB6.cell 15
                cases efz : fitsI m0
                · have HX := hide (four_bad HF4.out 0 (by simp) efz)
                  go_wp2_with (go_at_call 52; refine (fits01_any _ _).mono ?_; simp only [efz]; rintro e w' ⟨rfl, rfl⟩)
                  go_ret
                  exact ⟨by rw [HX.out]; rfl, hfw6⟩
                · have HX := hide (upto_succ2 hpt.out efz)
                  go_wp2_with (go_at_call 52; refine (fits01_any _ _).mono ?_; simp only [efz]; rintro e w' ⟨rfl, rfl⟩)
                  exact ⟨⟨1, by omega, by rfl, hfr6, HX⟩, by simp [intOf]⟩
              · rw [show ((1 : Nat) : Int) = 1 from rfl]
                have x16 : wr.cell? ⟨g, 16, none⟩ = some (.int .i64 m1) := hB6.cell 16
                cases efz : fitsI m1
                · have HX := hide (four_bad HF4.out 1 (by simp) efz)
                  go_wp2_with (go_at_call 52; refine (fits01_any _ _).mono ?_; simp only [efz]; rintro e w' ⟨rfl, rfl⟩)
                  go_ret
                  exact ⟨by rw [HX.out]; rfl, hfw6⟩
                · have HX := hide (upto_succ2 hpt.out efz)
                  go_wp2_with (go_at_call 52; refine (fits01_any _ _).mono ?_; simp only [efz]; rintro e w' ⟨rfl, rfl⟩)
                  exact ⟨⟨2, by omega, by rfl, hfr6, HX⟩, by simp [intOf]⟩
              · rw [show ((2 : Nat) : Int) = 2 from rfl]
                have x17 : wr.cell? ⟨g, 17, none⟩ = some (.int .i64 m2) := hB6.cell 17
                cases efz : fitsI m2
                · have HX := hide (four_bad HF4.out 2 (by simp) efz)
                  go_wp2_with (go_at_call 52; refine (fits01_any _ _).mono ?_; simp only [efz]; rintro e w' ⟨rfl, rfl⟩)
                  go_ret
                  exact ⟨by rw [HX.out]; rfl, hfw6⟩
                · have HX := hide (upto_succ2 hpt.out efz)
                  go_wp2_with (go_at_call 52; refine (fits01_any _ _).mono ?_; simp only [efz]; rintro e w' ⟨rfl, rfl⟩)
                  exact ⟨⟨3, by omega, by rfl, hfr6, HX⟩, by simp [intOf]⟩
              · rw [show ((3 : Nat) : Int) = 3 from rfl]
                have x18 : wr.cell? ⟨g, 18, none⟩ = some (.int .i64 m3) := hB6.cell 18
                cases efz : fitsI m3
                · have HX := hide (four_bad HF4.out 3 (by simp) efz)
                  go_wp2_with (go_at_call 52; refine (fits01_any _ _).mono ?_; simp only [efz]; rintro e w' ⟨rfl, rfl⟩)
                  go_ret
                  exact ⟨by rw [HX.out]; rfl, hfw6⟩
                · have HX := hide (upto_succ2 hpt.out efz)
                  go_wp2_with (go_at_call 52; refine (fits01_any _ _).mono ?_; simp only [efz]; rintro e w' ⟨rfl, rfl⟩)
                  exact ⟨⟨4, by omega, by rfl, hfr6, HX⟩, by simp [intOf]⟩
              · rw [show ((4 : Nat) : Int) = 4 from rfl]
                have x19 : wr.cell? ⟨g, 19, none⟩ = some (.int .i64 m4) := hB6.cell 19
                cases efz : fitsI m4
                · have HX := hide (four_bad HF4.out 4 (by simp) efz)
                  go_wp2_with (go_at_call 52; refine (fits01_any _ _).mono ?_; simp only [efz]; rintro e w' ⟨rfl, rfl⟩)
                  go_ret
                  exact ⟨by rw [HX.out]; rfl, hfw6⟩
                · have HX := hide (upto_succ2 hpt.out efz)
                  go_wp2_with (go_at_call 52; refine (fits01_any _ _).mono ?_; simp only [efz]; rintro e w' ⟨rfl, rfl⟩)
                  exact ⟨⟨5, by omega, by rfl, hfr6, HX⟩, by simp [intOf]⟩
              · rw [show ((5 : Nat) : Int) = 5 from rfl]
                have x20 : wr.cell? ⟨g, 20, none⟩ = some (.int .i64 m5) := hB6.cell 20
                cases efz : fitsI m5
                · have HX := hide (four_bad HF4.out 5 (by simp) efz)
                  go_wp2_with (go_at_call 52; refine (fits01_any _ _).mono ?_; simp only [efz]; rintro e w' ⟨rfl, rfl⟩)
                  go_ret
                  exact ⟨by rw [HX.out]; rfl, hfw6⟩
                · have HX := hide (upto_succ2 hpt.out efz)
                  go_wp2_with (go_at_call 52; refine (fits01_any _ _).mono ?_; simp only [efz]; rintro e w' ⟨rfl, rfl⟩)
                  exact ⟨⟨6, by omega, by rfl, hfr6, HX⟩, by simp [intOf]⟩
              · rw [show ((6 : Nat) : Int) = 6 from rfl]
                have HX := hide (four_good HF4.out hpt.out)
                clear hpt HF4
                go_wp2
                all_goals
                  go_ret
                  exact ⟨ret_bool (by rw [HX.out]; first | (rw [Bool.eq_iff_iff]; simp; omega) | (cases NB <;> simp <;> omega)), hfw6⟩
          · have HK4 := hide hk4
            have dk4 : (kd == 4) = false := by simpa using hk4
            clear hk4
            cases hpb : pathB d.path
            · have HBAD2 := hide (rest_bad2 HF.out HD.out HK4.out hpb)
              rw [hpb] at HSP
              clear hpb HF
              go_wp2_with (first | (go_at_call 51; refine (HNP.out _).mono ?_; rintro e w5 ⟨rfl, hf5⟩; have hB5 := hB2.keep hf5 (by simp); clear y0 y1 y2 y3 y4 y5 y6 y7 y8 y9 y10 y11 y12 y13 y14 y15 y16 y17 y18 y19 y20 y21; have z0 : w5.cell? ⟨g, 0, none⟩ = some (.int .i64 kd) := hB5.cell 0; have z1 : w5.cell? ⟨g, 1, none⟩ = some (.slice Ap np cp) := hB5.cell 1; have z2 : w5.cell? ⟨g, 2, none⟩ = some (.int .i64 4) := hB5.cell 2; have z3 : w5.cell? ⟨g, 3, none⟩ = some (.int .i64 p0) := hB5.cell 3; have z4 : w5.cell? ⟨g, 4, none⟩ = some (.int .i64 p1) := hB5.cell 4; have z5 : w5.cell? ⟨g, 5, none⟩ = some (.int .i64 p2) := hB5.cell 5; have z6 : w5.cell? ⟨g, 6, none⟩ = some (.int .i64 p3) := hB5.cell 6; have z7 : w5.cell? ⟨g, 7, none⟩ = some (.slice Ac nc cc) := hB5.cell 7; have z8 : w5.cell? ⟨g, 8, none⟩ = some (.int .i64 pw) := hB5.cell 8; have z9 : w5.cell? ⟨g, 9, none⟩ = some (.int .i64 pc) := hB5.cell 9; have z10 : w5.cell? ⟨g, 10, none⟩ = some (.int .i64 pj) := hB5.cell 10; have z11 : w5.cell? ⟨g, 11, none⟩ = some (.int .i64 pm) := hB5.cell 11; have z12 : w5.cell? ⟨g, 12, none⟩ = some (.slice Ad nd cd) := hB5.cell 12; have z13 : w5.cell? ⟨g, 13, none⟩ = some (.int .i64 pf) := hB5.cell 13; have z14 : w5.cell? ⟨g, 14, none⟩ = some (.int .i64 fo) := hB5.cell 14; have z15 : w5.cell? ⟨g, 15, none⟩ = some (.int .i64 m0) := hB5.cell 15; have z16 : w5.cell? ⟨g, 16, none⟩ = some (.int .i64 m1) := hB5.cell 16; have z17 : w5.cell? ⟨g, 17, none⟩ = some (.int .i64 m2) := hB5.cell 17; have z18 : w5.cell? ⟨g, 18, none⟩ = some (.int .i64 m3) := hB5.cell 18; have z19 : w5.cell? ⟨g, 19, none⟩ = some (.int .i64 m4) := hB5.cell 19; have z20 : w5.cell? ⟨g, 20, none⟩ = some (.int .i64 m5) := hB5.cell 20; have z21 : w5.cell? ⟨g, 21, none⟩ = some (.slice Ab nb cb) := hB5.cell 21) | (go_at_call 50; refine (HSP.out _ (by repeat (first | with_reducible exact Fr.refl _ _ | with_reducible assumption | with_reducible refine Fr.drewN ?_ _ | with_reducible refine Fr.drew ?_ | with_reducible refine Fr.alloc ?_ _ | ((with_reducible refine Fr.setCell ?_ ?_ _) <;> first | (apply Or.inl; simp; done) | (apply Or.inr; simp; done) | (apply Or.inr; simp; omega) | skip) | (refine Fr.then0 ?_ (by with_reducible assumption)) | (refine Fr.trans ?_ (by with_reducible assumption))))).mono ?_; rintro e w6 ⟨rfl, hf6⟩))
              all_goals
                go_ret
                exact ⟨by rw [HBAD2.out]; rfl, hfw.trans (by repeat (first | with_reducible exact Fr.refl _ _ | with_reducible assumption | with_reducible refine Fr.drewN ?_ _ | with_reducible refine Fr.drew ?_ | with_reducible refine Fr.alloc ?_ _ | ((with_reducible refine Fr.setCell ?_ ?_ _) <;> first | (apply Or.inl; simp; done) | (apply Or.inr; simp; done) | (apply Or.inr; simp; omega) | skip) | (refine Fr.then0 ?_ (by with_reducible assumption)) | (refine Fr.trans ?_ (by with_reducible assumption))))⟩
            · have HBAD := hide (fun h => rest_bad HF.out HD.out HK4.out HPL.out HBL.out h)
              have HG := hide (fun a b c d' e' f => rest_good HF.out HD.out HK4.out HPL.out HBL.out hpb a b c d' e' f)
              rw [hpb] at HSP
              clear hpb HF
              go_wp2_with (first | (go_at_call 51; refine (HNP.out _).mono ?_; rintro e w5 ⟨rfl, hf5⟩; have hB5 := hB2.keep hf5 (by simp); clear y0 y1 y2 y3 y4 y5 y6 y7 y8 y9 y10 y11 y12 y13 y14 y15 y16 y17 y18 y19 y20 y21; have z0 : w5.cell? ⟨g, 0, none⟩ = some (.int .i64 kd) := hB5.cell 0; have z1 : w5.cell? ⟨g, 1, none⟩ = some (.slice Ap np cp) := hB5.cell 1; have z2 : w5.cell? ⟨g, 2, none⟩ = some (.int .i64 4) := hB5.cell 2; have z3 : w5.cell? ⟨g, 3, none⟩ = some (.int .i64 p0) := hB5.cell 3; have z4 : w5.cell? ⟨g, 4, none⟩ = some (.int .i64 p1) := hB5.cell 4; have z5 : w5.cell? ⟨g, 5, none⟩ = some (.int .i64 p2) := hB5.cell 5; have z6 : w5.cell? ⟨g, 6, none⟩ = some (.int .i64 p3) := hB5.cell 6; have z7 : w5.cell? ⟨g, 7, none⟩ = some (.slice Ac nc cc) := hB5.cell 7; have z8 : w5.cell? ⟨g, 8, none⟩ = some (.int .i64 pw) := hB5.cell 8; have z9 : w5.cell? ⟨g, 9, none⟩ = some (.int .i64 pc) := hB5.cell 9; have z10 : w5.cell? ⟨g, 10, none⟩ = some (.int .i64 pj) := hB5.cell 10; have z11 : w5.cell? ⟨g, 11, none⟩ = some (.int .i64 pm) := hB5.cell 11; have z12 : w5.cell? ⟨g, 12, none⟩ = some (.slice Ad nd cd) := hB5.cell 12; have z13 : w5.cell? ⟨g, 13, none⟩ = some (.int .i64 pf) := hB5.cell 13; have z14 : w5.cell? ⟨g, 14, none⟩ = some (.int .i64 fo) := hB5.cell 14; have z15 : w5.cell? ⟨g, 15, none⟩ = some (.int .i64 m0) := hB5.cell 15; have z16 : w5.cell? ⟨g, 16, none⟩ = some (.int .i64 m1) := hB5.cell 16; have z17 : w5.cell? ⟨g, 17, none⟩ = some (.int .i64 m2) := hB5.cell 17; have z18 : w5.cell? ⟨g, 18, none⟩ = some (.int .i64 m3) := hB5.cell 18; have z19 : w5.cell? ⟨g, 19, none⟩ = some (.int .i64 m4) := hB5.cell 19; have z20 : w5.cell? ⟨g, 20, none⟩ = some (.int .i64 m5) := hB5.cell 20; have z21 : w5.cell? ⟨g, 21, none⟩ = some (.slice Ab nb cb) := hB5.cell 21) | (go_at_call 50; refine (HSP.out _ (by repeat (first | with_reducible exact Fr.refl _ _ | with_reducible assumption | with_reducible refine Fr.drewN ?_ _ | with_reducible refine Fr.drew ?_ | with_reducible refine Fr.alloc ?_ _ | ((with_reducible refine Fr.setCell ?_ ?_ _) <;> first | (apply Or.inl; simp; done) | (apply Or.inr; simp; done) | (apply Or.inr; simp; omega) | skip) | (refine Fr.then0 ?_ (by with_reducible assumption)) | (refine Fr.trans ?_ (by with_reducible assumption))))).mono ?_; rintro e w6 ⟨rfl, hf6⟩; have hB6 := hB5.keep hf6 (by simp); clear z0 z1 z2 z3 z4 z5 z6 z7 z8 z9 z10 z11 z12 z13 z14 z15 z16 z17 z18 z19 z20 z21; have x0 : w6.cell? ⟨g, 0, none⟩ = some (.int .i64 kd) := hB6.cell 0; have x8 : w6.cell? ⟨g, 8, none⟩ = some (.int .i64 pw) := hB6.cell 8; have x9 : w6.cell? ⟨g, 9, none⟩ = some (.int .i64 pc) := hB6.cell 9; have x10 : w6.cell? ⟨g, 10, none⟩ = some (.int .i64 pj) := hB6.cell 10; have x11 : w6.cell? ⟨g, 11, none⟩ = some (.int .i64 pm) := hB6.cell 11; have x12 : w6.cell? ⟨g, 12, none⟩ = some (.slice Ad nd cd) := hB6.cell 12; have x13 : w6.cell? ⟨g, 13, none⟩ = some (.int .i64 pf) := hB6.cell 13) | (go_at_call 53; refine (HPN.out _ (by repeat (first | with_reducible exact Fr.refl _ _ | with_reducible assumption | with_reducible refine Fr.drewN ?_ _ | with_reducible refine Fr.drew ?_ | with_reducible refine Fr.alloc ?_ _ | ((with_reducible refine Fr.setCell ?_ ?_ _) <;> first | (apply Or.inl; simp; done) | (apply Or.inr; simp; done) | (apply Or.inr; simp; omega) | skip) | (refine Fr.then0 ?_ (by with_reducible assumption)) | (refine Fr.trans ?_ (by with_reducible assumption))))).mono ?_; rintro e w7 ⟨rfl, hf7⟩))
              all_goals
                go_ret
                refine ⟨?_, hfw.trans (by repeat (first | with_reducible exact Fr.refl _ _ | with_reducible assumption | with_reducible refine Fr.drewN ?_ _ | with_reducible refine Fr.drew ?_ | with_reducible refine Fr.alloc ?_ _ | ((with_reducible refine Fr.setCell ?_ ?_ _) <;> first | (apply Or.inl; simp; done) | (apply Or.inr; simp; done) | (apply Or.inr; simp; omega) | skip) | (refine Fr.then0 ?_ (by with_reducible assumption)) | (refine Fr.trans ?_ (by with_reducible assumption))))⟩
                first
                  | (rw [HBAD.out (by omega)]; rfl)
                  | (exfalso; have hx : (kd < 1 ∨ 3 < kd) ∨ ((np : Int) == 0) = true := (by assumption); simp only [beq_iff_eq] at hx; omega)
                  | (have hx : (kd == 3) = true := (by assumption); rw [HG.out (by omega) (by omega) (by omega) (by omega) (by omega) (by omega), if_pos (by simpa using hx)]; rfl)
                  | (have hx : (kd == 3) = false := (by assumption); rw [HG.out (by omega) (by omega) (by omega) (by omega) (by omega) (by omega), if_neg (by simpa using hx)]; rfl)
end Go.Proofs.YtndfdekcdhlgoaaDoor
