/- Contracts: package paint's items (paths). -/
import Derived.Test.YtndfdekcdhlgoaaDoorScPaJ
set_option linter.unusedVariables false
set_option linter.unusedSimpArgs false
namespace Go.Proofs.YtndfdekcdhlgoaaDoor
open Go.RowKit
set_option maxRecDepth 100000 in
set_option maxHeartbeats 8000000 in
theorem pitem_path {w0 : World} {N : Nat → Prop} {kd sp p0 p1 p2 p3 pw pc pj pm pf fo m0 m1 m2 m3 m4 m5 : Int} {path : List SegD} {clips : List ClipD} {dash : List Int} {bytes : List UInt8} {Ap Ac Ad Ab : Option Addr} {np cp nc cc nd cd nb cb : Nat}
    (hs : ItemS w0 N ⟨kd, path, ⟨sp, p0, p1, p2, p3⟩, clips, ⟨pw, pc, pj, pm, dash, pf⟩, fo, ⟨m0, m1, m2, m3, m4, m5⟩, bytes⟩ Ap np cp Ac nc cc Ad nd cd Ab nb cb) (hF : Fonts w0) (w : World) (hf : Fr [] w0 w) (hco0 : colB ⟨sp, p0, p1, p2, p3⟩ = true) (hcl0 : clipsB clips = true) (hk4 : ¬ kd = 4) (hpb0 : pathB path = false) :
    Calls Tryd.prog 25 #[.agg #[.int .i64 kd, .slice Ap np cp, .int .i64 sp, .int .i64 p0, .int .i64 p1, .int .i64 p2, .int .i64 p3, .slice Ac nc cc, .int .i64 pw, .int .i64 pc, .int .i64 pj, .int .i64 pm, .slice Ad nd cd, .int .i64 pf, .int .i64 fo, .int .i64 m0, .int .i64 m1, .int .i64 m2, .int .i64 m3, .int .i64 m4, .int .i64 m5, .slice Ab nb cb]] w fun e w' => e = .returned (.bool (itemB ⟨kd, path, ⟨sp, p0, p1, p2, p3⟩, clips, ⟨pw, pc, pj, pm, dash, pf⟩, fo, ⟨m0, m1, m2, m3, m4, m5⟩, bytes⟩)) ∧ Fr [] w w' := by
  obtain ⟨d, hd⟩ : ∃ d : ItemD, d = ⟨kd, path, ⟨sp, p0, p1, p2, p3⟩, clips, ⟨pw, pc, pj, pm, dash, pf⟩, fo, ⟨m0, m1, m2, m3, m4, m5⟩, bytes⟩ := ⟨_, rfl⟩
  obtain ⟨R, hR⟩ : ∃ R, R = itemB d := ⟨_, rfl⟩
  rw [← hd] at hs
  rw [← hd, ← hR]
  have HR := hide hR
  have HD := hide hd
  have HSS := hide hs
  have HCO := hide (fun W => pcolor_any sp p0 p1 p2 p3 W)
  have HCL := hide (fun W (h : Fr [] w W) => pclips_any (c := cc) hs.clips W (hf.trans h))
  have HSP := hide (fun W (h : Fr [] w W) => pSound_any (c := cp) hs.path W (hf.trans h))
  have HPN := hide (fun W (h : Fr [] w W) => ppen_any ⟨pw, pc, pj, pm, dash, pf⟩ (c := cd) (by have h1 := hs.dash; rw [hd] at h1; exact h1) W (hf.trans h))
  have HNP := hide (fun W => none_any ⟨pw, pc, pj, pm, dash, pf⟩ (A := Ad) (n := nd) (c := cd) (by have h1 := hs.dash.len1; rw [hd] at h1; simpa using h1) W)
  have HLT := hide (fun (z : Int) W (h : Fr [] w W) => letters_any (kd := z) (sp := sp) (p0 := p0) (p1 := p1) (p2 := p2) (p3 := p3) (pw := pw) (pc := pc) (pj := pj) (pm := pm) (pf := pf) (fo := fo) (m0 := m0) (m1 := m1) (m2 := m2) (m3 := m3) (m4 := m4) (m5 := m5) (Ap := Ap) (Ac := Ac) (Ad := Ad) (Ab := Ab) (np := np) (cp := cp) (nc := nc) (cc := cc) (nd := nd) (cd := cd) (nb := nb) (cb := cb) hF W (hf.trans h))
  unfold PenV at HPN HNP
  have HPL := hide hs.path.len
  have HBL := hide hs.bytes.len
  have ecol : d.col = ⟨sp, p0, p1, p2, p3⟩ := by rw [hd]
  clear hR hs hF
  have HF : Hid (R = restB d) := hide (by rw [HR.out]; exact item_rest (by rw [ecol]; exact hco0) (by rw [HD.out]; exact hcl0))
  rw [hco0] at HCO
  rw [show clipsB d.clips = true by rw [HD.out]; exact hcl0] at HCL
  clear hco0 hcl0 ecol hd
  have dk4 : (kd == 4) = false := by simpa using hk4
  have HBAD2 := hide (rest_bad2 HF.out HD.out hk4 (by rw [HD.out]; exact hpb0))
  rw [show pathB d.path = false by rw [HD.out]; exact hpb0] at HSP
  clear hpb0 HF
  go_enter Tryd.func25, Tryd.ntmps25
  go_wp2_with fail
  obtain ⟨g, hg⟩ : ∃ g, g = w.heap.size := ⟨_, rfl⟩
  obtain ⟨W1, hW1⟩ : ∃ W1, W1 = w.alloc (.cells #[.int .i64 kd, .slice Ap np cp, .int .i64 sp, .int .i64 p0, .int .i64 p1, .int .i64 p2, .int .i64 p3, .slice Ac nc cc, .int .i64 pw, .int .i64 pc, .int .i64 pj, .int .i64 pm, .slice Ad nd cd, .int .i64 pf, .int .i64 fo, .int .i64 m0, .int .i64 m1, .int .i64 m2, .int .i64 m3, .int .i64 m4, .int .i64 m5, .slice Ab nb cb] 43) := ⟨_, rfl⟩
  have hB : Blk W1 g 43 #[.int .i64 kd, .slice Ap np cp, .int .i64 sp, .int .i64 p0, .int .i64 p1, .int .i64 p2, .int .i64 p3, .slice Ac nc cc, .int .i64 pw, .int .i64 pc, .int .i64 pj, .int .i64 pm, .slice Ad nd cd, .int .i64 pf, .int .i64 fo, .int .i64 m0, .int .i64 m1, .int .i64 m2, .int .i64 m3, .int .i64 m4, .int .i64 m5, .slice Ab nb cb] := by rw [hW1, hg]; exact Blk.new _ _ _
  have hfa : Fr [] w W1 := by rw [hW1]; exact (by repeat (first | with_reducible exact Fr.refl _ _ | with_reducible assumption | with_reducible refine Fr.drewN ?_ _ | with_reducible refine Fr.drew ?_ | with_reducible refine Fr.alloc ?_ _ | ((with_reducible refine Fr.setCell ?_ ?_ _) <;> first | (apply Or.inl; simp; done) | (apply Or.inr; simp; done) | (apply Or.inr; simp; omega) | skip) | (refine Fr.then0 ?_ (by with_reducible assumption)) | (refine Fr.trans ?_ (by with_reducible assumption))))
  rw [← hW1, ← hg]
  clear hW1 hg
  generalize Value.agg #[.int .i64 kd, .slice Ap np cp, .int .i64 sp, .int .i64 p0, .int .i64 p1, .int .i64 p2, .int .i64 p3, .slice Ac nc cc, .int .i64 pw, .int .i64 pc, .int .i64 pj, .int .i64 pm, .slice Ad nd cd, .int .i64 pf, .int .i64 fo, .int .i64 m0, .int .i64 m1, .int .i64 m2, .int .i64 m3, .int .i64 m4, .int .i64 m5, .slice Ab nb cb] = ag
  refine (HCO.out _).mono ?_
  rintro e w5 ⟨rfl, hf5⟩
  have hB5 := hB.keep hf5 (by simp)
  have y7 : w5.cell? ⟨g, 7, none⟩ = some (.slice Ac nc cc) := hB5.cell 7
  go_wp2_with (first | (go_at_call 41; refine (HCL.out _ (hfa.trans hf5)).mono ?_; rintro e w6 ⟨rfl, hf6⟩; have hf7 := hfa.trans (hf5.trans hf6); have hB6 := hB5.keep hf6 (by simp); clear y7; have y0 : w6.cell? ⟨g, 0, none⟩ = some (.int .i64 kd) := hB6.cell 0; have y1 : w6.cell? ⟨g, 1, none⟩ = some (.slice Ap np cp) := hB6.cell 1; have y2 : w6.cell? ⟨g, 2, none⟩ = some (.int .i64 sp) := hB6.cell 2; have y3 : w6.cell? ⟨g, 3, none⟩ = some (.int .i64 p0) := hB6.cell 3; have y4 : w6.cell? ⟨g, 4, none⟩ = some (.int .i64 p1) := hB6.cell 4; have y5 : w6.cell? ⟨g, 5, none⟩ = some (.int .i64 p2) := hB6.cell 5; have y6 : w6.cell? ⟨g, 6, none⟩ = some (.int .i64 p3) := hB6.cell 6; have y7 : w6.cell? ⟨g, 7, none⟩ = some (.slice Ac nc cc) := hB6.cell 7; have y8 : w6.cell? ⟨g, 8, none⟩ = some (.int .i64 pw) := hB6.cell 8; have y9 : w6.cell? ⟨g, 9, none⟩ = some (.int .i64 pc) := hB6.cell 9; have y10 : w6.cell? ⟨g, 10, none⟩ = some (.int .i64 pj) := hB6.cell 10; have y11 : w6.cell? ⟨g, 11, none⟩ = some (.int .i64 pm) := hB6.cell 11; have y12 : w6.cell? ⟨g, 12, none⟩ = some (.slice Ad nd cd) := hB6.cell 12; have y13 : w6.cell? ⟨g, 13, none⟩ = some (.int .i64 pf) := hB6.cell 13; have y14 : w6.cell? ⟨g, 14, none⟩ = some (.int .i64 fo) := hB6.cell 14; have y15 : w6.cell? ⟨g, 15, none⟩ = some (.int .i64 m0) := hB6.cell 15; have y16 : w6.cell? ⟨g, 16, none⟩ = some (.int .i64 m1) := hB6.cell 16; have y17 : w6.cell? ⟨g, 17, none⟩ = some (.int .i64 m2) := hB6.cell 17; have y18 : w6.cell? ⟨g, 18, none⟩ = some (.int .i64 m3) := hB6.cell 18; have y19 : w6.cell? ⟨g, 19, none⟩ = some (.int .i64 m4) := hB6.cell 19; have y20 : w6.cell? ⟨g, 20, none⟩ = some (.int .i64 m5) := hB6.cell 20; have y21 : w6.cell? ⟨g, 21, none⟩ = some (.slice Ab nb cb) := hB6.cell 21) | (go_at_call 44; refine (HSP.out _ hf7).mono ?_; rintro e w8 ⟨rfl, hf8⟩; have hB8 := hB6.keep hf8 (by simp); have hf9 := hf7.trans hf8; clear y0 y1 y2 y3 y4 y5 y6 y7 y8 y9 y10 y11 y12 y13 y14 y15 y16 y17 y18 y19 y20 y21; have y0 : w8.cell? ⟨g, 0, none⟩ = some (.int .i64 kd) := hB8.cell 0; have y1 : w8.cell? ⟨g, 1, none⟩ = some (.slice Ap np cp) := hB8.cell 1; have y2 : w8.cell? ⟨g, 2, none⟩ = some (.int .i64 sp) := hB8.cell 2; have y3 : w8.cell? ⟨g, 3, none⟩ = some (.int .i64 p0) := hB8.cell 3; have y4 : w8.cell? ⟨g, 4, none⟩ = some (.int .i64 p1) := hB8.cell 4; have y5 : w8.cell? ⟨g, 5, none⟩ = some (.int .i64 p2) := hB8.cell 5; have y6 : w8.cell? ⟨g, 6, none⟩ = some (.int .i64 p3) := hB8.cell 6; have y7 : w8.cell? ⟨g, 7, none⟩ = some (.slice Ac nc cc) := hB8.cell 7; have y8 : w8.cell? ⟨g, 8, none⟩ = some (.int .i64 pw) := hB8.cell 8; have y9 : w8.cell? ⟨g, 9, none⟩ = some (.int .i64 pc) := hB8.cell 9; have y10 : w8.cell? ⟨g, 10, none⟩ = some (.int .i64 pj) := hB8.cell 10; have y11 : w8.cell? ⟨g, 11, none⟩ = some (.int .i64 pm) := hB8.cell 11; have y12 : w8.cell? ⟨g, 12, none⟩ = some (.slice Ad nd cd) := hB8.cell 12; have y13 : w8.cell? ⟨g, 13, none⟩ = some (.int .i64 pf) := hB8.cell 13; have y14 : w8.cell? ⟨g, 14, none⟩ = some (.int .i64 fo) := hB8.cell 14; have y15 : w8.cell? ⟨g, 15, none⟩ = some (.int .i64 m0) := hB8.cell 15; have y16 : w8.cell? ⟨g, 16, none⟩ = some (.int .i64 m1) := hB8.cell 16; have y17 : w8.cell? ⟨g, 17, none⟩ = some (.int .i64 m2) := hB8.cell 17; have y18 : w8.cell? ⟨g, 18, none⟩ = some (.int .i64 m3) := hB8.cell 18; have y19 : w8.cell? ⟨g, 19, none⟩ = some (.int .i64 m4) := hB8.cell 19; have y20 : w8.cell? ⟨g, 20, none⟩ = some (.int .i64 m5) := hB8.cell 20; have y21 : w8.cell? ⟨g, 21, none⟩ = some (.slice Ab nb cb) := hB8.cell 21))
  all_goals
    go_ret
    exact ⟨by rw [HBAD2.out]; rfl, hf7.trans (by repeat (first | with_reducible exact Fr.refl _ _ | with_reducible assumption | with_reducible refine Fr.drewN ?_ _ | with_reducible refine Fr.drew ?_ | with_reducible refine Fr.alloc ?_ _ | ((with_reducible refine Fr.setCell ?_ ?_ _) <;> first | (apply Or.inl; simp; done) | (apply Or.inr; simp; done) | (apply Or.inr; simp; omega) | skip) | (refine Fr.then0 ?_ (by with_reducible assumption)) | (refine Fr.trans ?_ (by with_reducible assumption))))⟩
set_option maxRecDepth 100000 in
set_option maxHeartbeats 8000000 in
theorem pitem_other {w0 : World} {N : Nat → Prop} {kd sp p0 p1 p2 p3 pw pc pj pm pf fo m0 m1 m2 m3 m4 m5 : Int} {path : List SegD} {clips : List ClipD} {dash : List Int} {bytes : List UInt8} {Ap Ac Ad Ab : Option Addr} {np cp nc cc nd cd nb cb : Nat}
    (hs : ItemS w0 N ⟨kd, path, ⟨sp, p0, p1, p2, p3⟩, clips, ⟨pw, pc, pj, pm, dash, pf⟩, fo, ⟨m0, m1, m2, m3, m4, m5⟩, bytes⟩ Ap np cp Ac nc cc Ad nd cd Ab nb cb) (hF : Fonts w0) (w : World) (hf : Fr [] w0 w) (hco0 : colB ⟨sp, p0, p1, p2, p3⟩ = true) (hcl0 : clipsB clips = true) (hpb0 : pathB path = true) (hk4 : ¬ kd = 4) (hko : kd < 1 ∨ 3 < kd) :
    Calls Tryd.prog 25 #[.agg #[.int .i64 kd, .slice Ap np cp, .int .i64 sp, .int .i64 p0, .int .i64 p1, .int .i64 p2, .int .i64 p3, .slice Ac nc cc, .int .i64 pw, .int .i64 pc, .int .i64 pj, .int .i64 pm, .slice Ad nd cd, .int .i64 pf, .int .i64 fo, .int .i64 m0, .int .i64 m1, .int .i64 m2, .int .i64 m3, .int .i64 m4, .int .i64 m5, .slice Ab nb cb]] w fun e w' => e = .returned (.bool (itemB ⟨kd, path, ⟨sp, p0, p1, p2, p3⟩, clips, ⟨pw, pc, pj, pm, dash, pf⟩, fo, ⟨m0, m1, m2, m3, m4, m5⟩, bytes⟩)) ∧ Fr [] w w' := by
  obtain ⟨d, hd⟩ : ∃ d : ItemD, d = ⟨kd, path, ⟨sp, p0, p1, p2, p3⟩, clips, ⟨pw, pc, pj, pm, dash, pf⟩, fo, ⟨m0, m1, m2, m3, m4, m5⟩, bytes⟩ := ⟨_, rfl⟩
  obtain ⟨R, hR⟩ : ∃ R, R = itemB d := ⟨_, rfl⟩
  rw [← hd] at hs
  rw [← hd, ← hR]
  have HR := hide hR
  have HD := hide hd
  have HSS := hide hs
  have HCO := hide (fun W => pcolor_any sp p0 p1 p2 p3 W)
  have HCL := hide (fun W (h : Fr [] w W) => pclips_any (c := cc) hs.clips W (hf.trans h))
  have HSP := hide (fun W (h : Fr [] w W) => pSound_any (c := cp) hs.path W (hf.trans h))
  have HPN := hide (fun W (h : Fr [] w W) => ppen_any ⟨pw, pc, pj, pm, dash, pf⟩ (c := cd) (by have h1 := hs.dash; rw [hd] at h1; exact h1) W (hf.trans h))
  have HNP := hide (fun W => none_any ⟨pw, pc, pj, pm, dash, pf⟩ (A := Ad) (n := nd) (c := cd) (by have h1 := hs.dash.len1; rw [hd] at h1; simpa using h1) W)
  have HLT := hide (fun (z : Int) W (h : Fr [] w W) => letters_any (kd := z) (sp := sp) (p0 := p0) (p1 := p1) (p2 := p2) (p3 := p3) (pw := pw) (pc := pc) (pj := pj) (pm := pm) (pf := pf) (fo := fo) (m0 := m0) (m1 := m1) (m2 := m2) (m3 := m3) (m4 := m4) (m5 := m5) (Ap := Ap) (Ac := Ac) (Ad := Ad) (Ab := Ab) (np := np) (cp := cp) (nc := nc) (cc := cc) (nd := nd) (cd := cd) (nb := nb) (cb := cb) hF W (hf.trans h))
  unfold PenV at HPN HNP
  have HPL := hide hs.path.len
  have HBL := hide hs.bytes.len
  have ecol : d.col = ⟨sp, p0, p1, p2, p3⟩ := by rw [hd]
  clear hR hs hF
  have HF : Hid (R = restB d) := hide (by rw [HR.out]; exact item_rest (by rw [ecol]; exact hco0) (by rw [HD.out]; exact hcl0))
  rw [hco0] at HCO
  rw [show clipsB d.clips = true by rw [HD.out]; exact hcl0] at HCL
  clear hco0 hcl0 ecol hd
  have dk4 : (kd == 4) = false := by simpa using hk4
  have dk1 : (kd == 1) = false := by simp; omega
  have dk2 : (kd == 2) = false := by simp; omega
  have dk3 : (kd == 3) = false := by simp; omega
  have HBAD := hide (fun h => rest_bad HF.out HD.out hk4 HPL.out HBL.out h)
  have HG := hide (fun a b c d' e' f => rest_good HF.out HD.out hk4 HPL.out HBL.out (by rw [HD.out]; exact hpb0) a b c d' e' f)
  rw [show pathB d.path = true by rw [HD.out]; exact hpb0] at HSP
  clear hpb0 HF
  go_enter Tryd.func25, Tryd.ntmps25
  go_wp2_with fail
  obtain ⟨g, hg⟩ : ∃ g, g = w.heap.size := ⟨_, rfl⟩
  obtain ⟨W1, hW1⟩ : ∃ W1, W1 = w.alloc (.cells #[.int .i64 kd, .slice Ap np cp, .int .i64 sp, .int .i64 p0, .int .i64 p1, .int .i64 p2, .int .i64 p3, .slice Ac nc cc, .int .i64 pw, .int .i64 pc, .int .i64 pj, .int .i64 pm, .slice Ad nd cd, .int .i64 pf, .int .i64 fo, .int .i64 m0, .int .i64 m1, .int .i64 m2, .int .i64 m3, .int .i64 m4, .int .i64 m5, .slice Ab nb cb] 43) := ⟨_, rfl⟩
  have hB : Blk W1 g 43 #[.int .i64 kd, .slice Ap np cp, .int .i64 sp, .int .i64 p0, .int .i64 p1, .int .i64 p2, .int .i64 p3, .slice Ac nc cc, .int .i64 pw, .int .i64 pc, .int .i64 pj, .int .i64 pm, .slice Ad nd cd, .int .i64 pf, .int .i64 fo, .int .i64 m0, .int .i64 m1, .int .i64 m2, .int .i64 m3, .int .i64 m4, .int .i64 m5, .slice Ab nb cb] := by rw [hW1, hg]; exact Blk.new _ _ _
  have hfa : Fr [] w W1 := by rw [hW1]; exact (by repeat (first | with_reducible exact Fr.refl _ _ | with_reducible assumption | with_reducible refine Fr.drewN ?_ _ | with_reducible refine Fr.drew ?_ | with_reducible refine Fr.alloc ?_ _ | ((with_reducible refine Fr.setCell ?_ ?_ _) <;> first | (apply Or.inl; simp; done) | (apply Or.inr; simp; done) | (apply Or.inr; simp; omega) | skip) | (refine Fr.then0 ?_ (by with_reducible assumption)) | (refine Fr.trans ?_ (by with_reducible assumption))))
  rw [← hW1, ← hg]
  clear hW1 hg
  generalize Value.agg #[.int .i64 kd, .slice Ap np cp, .int .i64 sp, .int .i64 p0, .int .i64 p1, .int .i64 p2, .int .i64 p3, .slice Ac nc cc, .int .i64 pw, .int .i64 pc, .int .i64 pj, .int .i64 pm, .slice Ad nd cd, .int .i64 pf, .int .i64 fo, .int .i64 m0, .int .i64 m1, .int .i64 m2, .int .i64 m3, .int .i64 m4, .int .i64 m5, .slice Ab nb cb] = ag
  refine (HCO.out _).mono ?_
  rintro e w5 ⟨rfl, hf5⟩
  have hB5 := hB.keep hf5 (by simp)
  have y7 : w5.cell? ⟨g, 7, none⟩ = some (.slice Ac nc cc) := hB5.cell 7
  go_wp2_with (first | (go_at_call 41; refine (HCL.out _ (hfa.trans hf5)).mono ?_; rintro e w6 ⟨rfl, hf6⟩; have hf7 := hfa.trans (hf5.trans hf6); have hB6 := hB5.keep hf6 (by simp); clear y7; have y0 : w6.cell? ⟨g, 0, none⟩ = some (.int .i64 kd) := hB6.cell 0; have y1 : w6.cell? ⟨g, 1, none⟩ = some (.slice Ap np cp) := hB6.cell 1; have y2 : w6.cell? ⟨g, 2, none⟩ = some (.int .i64 sp) := hB6.cell 2; have y3 : w6.cell? ⟨g, 3, none⟩ = some (.int .i64 p0) := hB6.cell 3; have y4 : w6.cell? ⟨g, 4, none⟩ = some (.int .i64 p1) := hB6.cell 4; have y5 : w6.cell? ⟨g, 5, none⟩ = some (.int .i64 p2) := hB6.cell 5; have y6 : w6.cell? ⟨g, 6, none⟩ = some (.int .i64 p3) := hB6.cell 6; have y7 : w6.cell? ⟨g, 7, none⟩ = some (.slice Ac nc cc) := hB6.cell 7; have y8 : w6.cell? ⟨g, 8, none⟩ = some (.int .i64 pw) := hB6.cell 8; have y9 : w6.cell? ⟨g, 9, none⟩ = some (.int .i64 pc) := hB6.cell 9; have y10 : w6.cell? ⟨g, 10, none⟩ = some (.int .i64 pj) := hB6.cell 10; have y11 : w6.cell? ⟨g, 11, none⟩ = some (.int .i64 pm) := hB6.cell 11; have y12 : w6.cell? ⟨g, 12, none⟩ = some (.slice Ad nd cd) := hB6.cell 12; have y13 : w6.cell? ⟨g, 13, none⟩ = some (.int .i64 pf) := hB6.cell 13; have y14 : w6.cell? ⟨g, 14, none⟩ = some (.int .i64 fo) := hB6.cell 14; have y15 : w6.cell? ⟨g, 15, none⟩ = some (.int .i64 m0) := hB6.cell 15; have y16 : w6.cell? ⟨g, 16, none⟩ = some (.int .i64 m1) := hB6.cell 16; have y17 : w6.cell? ⟨g, 17, none⟩ = some (.int .i64 m2) := hB6.cell 17; have y18 : w6.cell? ⟨g, 18, none⟩ = some (.int .i64 m3) := hB6.cell 18; have y19 : w6.cell? ⟨g, 19, none⟩ = some (.int .i64 m4) := hB6.cell 19; have y20 : w6.cell? ⟨g, 20, none⟩ = some (.int .i64 m5) := hB6.cell 20; have y21 : w6.cell? ⟨g, 21, none⟩ = some (.slice Ab nb cb) := hB6.cell 21) | (go_at_call 44; refine (HSP.out _ hf7).mono ?_; rintro e w8 ⟨rfl, hf8⟩; have hB8 := hB6.keep hf8 (by simp); have hf9 := hf7.trans hf8; clear y0 y1 y2 y3 y4 y5 y6 y7 y8 y9 y10 y11 y12 y13 y14 y15 y16 y17 y18 y19 y20 y21; have y0 : w8.cell? ⟨g, 0, none⟩ = some (.int .i64 kd) := hB8.cell 0; have y1 : w8.cell? ⟨g, 1, none⟩ = some (.slice Ap np cp) := hB8.cell 1; have y2 : w8.cell? ⟨g, 2, none⟩ = some (.int .i64 sp) := hB8.cell 2; have y3 : w8.cell? ⟨g, 3, none⟩ = some (.int .i64 p0) := hB8.cell 3; have y4 : w8.cell? ⟨g, 4, none⟩ = some (.int .i64 p1) := hB8.cell 4; have y5 : w8.cell? ⟨g, 5, none⟩ = some (.int .i64 p2) := hB8.cell 5; have y6 : w8.cell? ⟨g, 6, none⟩ = some (.int .i64 p3) := hB8.cell 6; have y7 : w8.cell? ⟨g, 7, none⟩ = some (.slice Ac nc cc) := hB8.cell 7; have y8 : w8.cell? ⟨g, 8, none⟩ = some (.int .i64 pw) := hB8.cell 8; have y9 : w8.cell? ⟨g, 9, none⟩ = some (.int .i64 pc) := hB8.cell 9; have y10 : w8.cell? ⟨g, 10, none⟩ = some (.int .i64 pj) := hB8.cell 10; have y11 : w8.cell? ⟨g, 11, none⟩ = some (.int .i64 pm) := hB8.cell 11; have y12 : w8.cell? ⟨g, 12, none⟩ = some (.slice Ad nd cd) := hB8.cell 12; have y13 : w8.cell? ⟨g, 13, none⟩ = some (.int .i64 pf) := hB8.cell 13; have y14 : w8.cell? ⟨g, 14, none⟩ = some (.int .i64 fo) := hB8.cell 14; have y15 : w8.cell? ⟨g, 15, none⟩ = some (.int .i64 m0) := hB8.cell 15; have y16 : w8.cell? ⟨g, 16, none⟩ = some (.int .i64 m1) := hB8.cell 16; have y17 : w8.cell? ⟨g, 17, none⟩ = some (.int .i64 m2) := hB8.cell 17; have y18 : w8.cell? ⟨g, 18, none⟩ = some (.int .i64 m3) := hB8.cell 18; have y19 : w8.cell? ⟨g, 19, none⟩ = some (.int .i64 m4) := hB8.cell 19; have y20 : w8.cell? ⟨g, 20, none⟩ = some (.int .i64 m5) := hB8.cell 20; have y21 : w8.cell? ⟨g, 21, none⟩ = some (.slice Ab nb cb) := hB8.cell 21) | (go_at_call 43; refine (HNP.out _).mono ?_; rintro e w9 ⟨rfl, hf9⟩) | (go_at_call 45; refine (HPN.out _ hf9).mono ?_; rintro e w9 ⟨rfl, hf10⟩))
  all_goals
    go_ret
    refine ⟨?_, hf7.trans (by repeat (first | with_reducible exact Fr.refl _ _ | with_reducible assumption | with_reducible refine Fr.drewN ?_ _ | with_reducible refine Fr.drew ?_ | with_reducible refine Fr.alloc ?_ _ | ((with_reducible refine Fr.setCell ?_ ?_ _) <;> first | (apply Or.inl; simp; done) | (apply Or.inr; simp; done) | (apply Or.inr; simp; omega) | skip) | (refine Fr.then0 ?_ (by with_reducible assumption)) | (refine Fr.trans ?_ (by with_reducible assumption))))⟩
    first
      | (rw [HBAD.out (by omega)]; rfl)
end Go.Proofs.YtndfdekcdhlgoaaDoor
