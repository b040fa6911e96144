/- Contracts: the printer's items: kind 3. -/
import Derived.Test.YtndfdekcdhlgoaaDoorScSpD
set_option linter.unusedVariables false
set_option linter.unusedSimpArgs false
namespace Go.Proofs.YtndfdekcdhlgoaaDoor
open Go.RowKit
set_option maxRecDepth 100000 in
set_option maxHeartbeats 4000000 in
theorem item_pr3 {w : World} {base b : Nat} {bs : List UInt8} (h : Bu w base prT b bs) {sp p0 p1 p2 p3 pw pc pj pm pf fo m0 m1 m2 m3 m4 m5 : Int} {path : List SegD} {clips : List ClipD} {dash : List Int} {bytes : List UInt8} {Ap Ac Ad Ab : Option Addr} {np cp nc cc nd cd nb cb : Nat}
    (hs : ItemS w (fun g => g < base) ⟨3, path, ⟨sp, p0, p1, p2, p3⟩, clips, ⟨pw, pc, pj, pm, dash, pf⟩, fo, ⟨m0, m1, m2, m3, m4, m5⟩, bytes⟩ Ap np cp Ac nc cc Ad nd cd Ab nb cb) (hb : itemB ⟨3, path, ⟨sp, p0, p1, p2, p3⟩, clips, ⟨pw, pc, pj, pm, dash, pf⟩, fo, ⟨m0, m1, m2, m3, m4, m5⟩, bytes⟩ = true) (hlen : bs.length ≤ 200000000) :
    Calls Tryd.prog 15 #[.pointer (some ⟨b, 0, none⟩), .agg #[.int .i64 3, .slice Ap np cp, .int .i64 sp, .int .i64 p0, .int .i64 p1, .int .i64 p2, .int .i64 p3, .slice Ac nc cc, .int .i64 pw, .int .i64 pc, .int .i64 pj, .int .i64 pm, .slice Ad nd cd, .int .i64 pf, .int .i64 fo, .int .i64 m0, .int .i64 m1, .int .i64 m2, .int .i64 m3, .int .i64 m4, .int .i64 m5, .slice Ab nb cb]] w fun e w' => e = .returned (.tuple #[]) ∧ Grew w base prT b (bs ++ itemT ⟨3, path, ⟨sp, p0, p1, p2, p3⟩, clips, ⟨pw, pc, pj, pm, dash, pf⟩, fo, ⟨m0, m1, m2, m3, m4, m5⟩, bytes⟩) w' := by
  have hip := item_parts hb
  dsimp only at hip
  obtain ⟨hco, hcl, hk4, hkp, hk3⟩ := hip
  have hcll := clips_len hcl
  have HCL := hide hcl
  have HNC := hide hs.clips.len
  have hnc : nc ≤ 16 := by have h1 := hcl; unfold clipsB at h1; simp only [Bool.and_eq_true, decide_eq_true_eq] at h1; have := hs.clips.len; dsimp only at this; omega
  have HEL := hide (fun W (hW : FrB base b w W) (k : Nat) (hk : k < nc) => (by
    obtain ⟨S, hf, hS⟩ := hW.fr
    exact clip_elem (hs.clips.keep hf (fun g hg hm => by have := (hS g hm).1; omega) (fun _ _ h => h.keep hf (fun g hg hm => by have := (hS g hm).1; omega))) hk))
  have HIT := hide (fun W (hW : FrB base b w W) => (by
    obtain ⟨S, hf, hS⟩ := hW.fr
    exact hs.keep hf (fun g hg hm => by have := (hS g hm).1; omega) : ItemS W (fun g => g < base) ⟨3, path, ⟨sp, p0, p1, p2, p3⟩, clips, ⟨pw, pc, pj, pm, dash, pf⟩, fo, ⟨m0, m1, m2, m3, m4, m5⟩, bytes⟩ Ap np cp Ac nc cc Ad nd cd Ab nb cb))
  have HH := hide h
  have hbw := h.lt
  have HCO := hide hco
  have HK4 := hide hk4
  have HKP := hide hkp
  have HK3 := hide hk3
  clear hs hb hcl hco hk4 hkp hk3 h
  go_enter Tryd.func15, Tryd.ntmps15
  go_wp2
  obtain ⟨g, hg⟩ : ∃ g, g = w.heap.size := ⟨_, rfl⟩
  obtain ⟨W1, hW1⟩ : ∃ W1, W1 = w.alloc (.cells #[.int .i64 3, .slice Ap np cp, .int .i64 sp, .int .i64 p0, .int .i64 p1, .int .i64 p2, .int .i64 p3, .slice Ac nc cc, .int .i64 pw, .int .i64 pc, .int .i64 pj, .int .i64 pm, .slice Ad nd cd, .int .i64 pf, .int .i64 fo, .int .i64 m0, .int .i64 m1, .int .i64 m2, .int .i64 m3, .int .i64 m4, .int .i64 m5, .slice Ab nb cb] 43) := ⟨_, rfl⟩
  have hB : Blk W1 g 43 #[.int .i64 3, .slice Ap np cp, .int .i64 sp, .int .i64 p0, .int .i64 p1, .int .i64 p2, .int .i64 p3, .slice Ac nc cc, .int .i64 pw, .int .i64 pc, .int .i64 pj, .int .i64 pm, .slice Ad nd cd, .int .i64 pf, .int .i64 fo, .int .i64 m0, .int .i64 m1, .int .i64 m2, .int .i64 m3, .int .i64 m4, .int .i64 m5, .slice Ab nb cb] := by rw [hW1, hg]; exact Blk.new _ _ _
  have hf1 : Fr [] w W1 := by rw [hW1]; exact (by repeat (first | with_reducible exact Fr.refl _ _ | with_reducible assumption | with_reducible refine Fr.drewN ?_ _ | with_reducible refine Fr.drew ?_ | with_reducible refine Fr.alloc ?_ _ | ((with_reducible refine Fr.setCell ?_ ?_ _) <;> first | (apply Or.inl; simp; done) | (apply Or.inr; simp; done) | (apply Or.inr; simp; omega) | skip) | (refine Fr.then0 ?_ (by with_reducible assumption)) | (refine Fr.trans ?_ (by with_reducible assumption))))
  have hgb : g ≠ b := by omega
  rw [← hW1, ← hg]
  clear hW1 hg
  generalize Value.agg #[.int .i64 3, .slice Ap np cp, .int .i64 sp, .int .i64 p0, .int .i64 p1, .int .i64 p2, .int .i64 p3, .slice Ac nc cc, .int .i64 pw, .int .i64 pc, .int .i64 pj, .int .i64 pm, .slice Ad nd cd, .int .i64 pf, .int .i64 fo, .int .i64 m0, .int .i64 m1, .int .i64 m2, .int .i64 m3, .int .i64 m4, .int .i64 m5, .slice Ab nb cb] = ag
  have HF1 := hide (FrB.of0 hf1 : FrB base b w W1)
  have HHF := hide hf1
  have HB1 := hide (HH.out.keep hf1)
  have HBI := hide hB
  have HGB := hide hgb
  clear hf1 hB hgb
  go_loopw [9] (fun i w2 => ∃ k : Nat, k ≤ nc ∧ i = .int .i64 k ∧ Grew W1 base prT b (bs ++ clipsT (clips.take k)) w2) (fun i _ => nc - (intOf i).toNat)
  case atStart => exact ⟨0, Nat.zero_le _, rfl, by simpa [clipsT] using Grew.refl HB1.out⟩
  case round =>
    obtain ⟨k, hk, rfl, hgr⟩ := hrel
    by_cases hlt : k < nc
    · have hdk : decide ((k : Int) < (nc : Int)) = true := by simp; omega
      obtain ⟨ad, cl, Aq, nq, cq, rfl, hlk, hq1, hq2, hq3, a0, a1⟩ := HEL.out wr (HF1.out.trans hgr.2) k hlt
      have hclp := clip_ok HCL.out (List.mem_of_getElem? hlk)
      have htk := clipsT_take clips k
      have hpl := pathT_len cl.path
      have hpl2 := (path_ok hclp).1
      have hL : (bs ++ clipsT (clips.take k)).length ≤ 210000000 := by rw [List.length_append]; omega
      have HSN := hide (show bs ++ clipsT (clips.take (k + 1)) = bs ++ clipsT (clips.take k) ++ clipT cl by rw [clipsT_snoc hlk, List.append_assoc])
      obtain ⟨B0, hB0⟩ : ∃ x, x = bs ++ clipsT (clips.take k) := ⟨_, rfl⟩
      rw [← hB0] at hgr hL HSN
      have HGR := hide hgr
      have hbr := hgr.1.lt
      have hfc : Fr [] wr (wr.alloc (.cells #[.slice Aq nq cq, .bool cl.eo] 45)) := (Fr.refl _ _).alloc _
      have hBc := Blk.new wr 45 #[.slice Aq nq cq, .bool cl.eo]
      have hgc : wr.heap.size ≠ b := by omega
      have HFC := hide hfc
      have HBC := hide hBc
      have HGC := hide hgc
      have HPT := hide (fun W (hW : FrB base b wr W) bs' (hb' : Bu W base prT b bs') (hl' : bs'.length ≤ 300000000) => path_pr (c := cq) hb' (by
        obtain ⟨S, hf, hS⟩ := hW.fr
        exact hq3.keep hf (fun g hg hm => by have := (hS g hm).1; omega) (fun _ _ h => h)) hclp hl')
      clear hlk hq3 hgr htk hB0 hfc hBc hgc hclp
      unfold clipT at HSN
      cases heo : cl.eo
      · rw [heo] at a1 HSN HFC HBC
        clear heo
        go_wp2_with (go_at_call 12; refine (wstr_any (HGR.out.1.keep HFC.out) lies_printer (by decide) [99, 108, 105, 112] (by simp only [List.length_cons, List.length_nil]; omega)).mono ?_)
        rintro e w5 ⟨rfl, hg5⟩
        try intro hg5
        have e0 : w5.cell? ⟨wr.heap.size, 0, none⟩ = some (.slice Aq nq cq) := (hg5.2.blk HBC.out HGC.out (by decide)).cell 0
        go_wp2_with (go_at_call 29; refine (HPT.out _ ((FrB.of0 HFC.out).trans hg5.2) _ hg5.1 (by rw [List.length_append]; simp only [List.length_cons, List.length_nil]; omega)).mono ?_)
        rintro e w6 ⟨rfl, hg6⟩
        try intro hg6
        go_wp2_with (go_at_call 14; refine (wbyte_any hg6.1 lies_printer (by decide) 10 10 rfl (by simp only [List.length_append, List.length_cons, List.length_nil]; omega)).mono ?_)
        rintro e w7 ⟨rfl, hg7⟩
        try intro hg7
        go_wp2
        exact ⟨⟨k + 1, by omega, by go_num, by have h9 := HGR.out.trans (Grew.after HFC.out (hg5.trans (hg6.trans hg7))); rw [HSN.out]; simpa using h9⟩, by simp [intOf]; omega⟩
      · rw [heo] at a1 HSN HFC HBC
        clear heo
        go_wp2_with (go_at_call 12; refine (wstr_any (HGR.out.1.keep HFC.out) lies_printer (by decide) [101, 111] (by simp only [List.length_cons, List.length_nil]; omega)).mono ?_)
        rintro e w4 ⟨rfl, hg4⟩
        try intro hg4
        go_wp2_with (go_at_call 12; refine (wstr_any hg4.1 lies_printer (by decide) [99, 108, 105, 112] (by simp only [List.length_append, List.length_cons, List.length_nil]; omega)).mono ?_)
        rintro e w5 ⟨rfl, hg5⟩
        try intro hg5
        have hg45 := hg4.trans hg5
        have e0 : w5.cell? ⟨wr.heap.size, 0, none⟩ = some (.slice Aq nq cq) := (hg45.2.blk HBC.out HGC.out (by decide)).cell 0
        go_wp2_with (go_at_call 29; refine (HPT.out _ ((FrB.of0 HFC.out).trans hg45.2) _ hg45.1 (by simp only [List.length_append, List.length_cons, List.length_nil]; omega)).mono ?_)
        rintro e w6 ⟨rfl, hg6⟩
        try intro hg6
        go_wp2_with (go_at_call 14; refine (wbyte_any hg6.1 lies_printer (by decide) 10 10 rfl (by simp only [List.length_append, List.length_cons, List.length_nil]; omega)).mono ?_)
        rintro e w7 ⟨rfl, hg7⟩
        try intro hg7
        go_wp2
        exact ⟨⟨k + 1, by omega, by go_num, by have h9 := HGR.out.trans (Grew.after HFC.out (hg45.trans (hg6.trans hg7))); rw [HSN.out]; simpa using h9⟩, by simp [intOf]; omega⟩
    · have hdk : decide ((k : Int) < (nc : Int)) = false := by simp; omega
      have hgr2 : Grew W1 base prT b (bs ++ clipsT clips) wr := by rw [List.take_of_length_le (by have h5 : clips.length = nc := HNC.out; omega)] at hgr; exact hgr
      have hL : (bs ++ clipsT clips).length ≤ 210000000 := by rw [List.length_append]; omega
      have HITR := hide (HIT.out wr (HF1.out.trans hgr2.2))
      clear hgr
      have y0 : wr.cell? ⟨g, 0, none⟩ = some (.int .i64 3) := (hgr2.2.blk HBI.out HGB.out (by decide)).cell 0
      have hcl4 := colT_len ⟨sp, p0, p1, p2, p3⟩ HCO.out
      go_wp2_with (go_at_call 12; refine (wstr_any hgr2.1 lies_printer (by decide) [115, 116, 114, 111, 107, 101] (by have := hL; simp only [List.length_cons, List.length_nil]; omega)).mono ?_)
      rintro e w4 ⟨rfl, hg4⟩
      try intro hg4
      have hq4 := hgr2.trans hg4
      have hL4 : (bs ++ clipsT clips ++ [115, 116, 114, 111, 107, 101]).length ≤ 210000006 := by simp only [List.length_append, List.length_cons, List.length_nil] at hL ⊢; omega
      clear y0
      have y2 : w4.cell? ⟨g, 2, none⟩ = some (.int .i64 sp) := (hq4.2.blk HBI.out HGB.out (by decide)).cell 2
      have y3 : w4.cell? ⟨g, 3, none⟩ = some (.int .i64 p0) := (hq4.2.blk HBI.out HGB.out (by decide)).cell 3
      have y4 : w4.cell? ⟨g, 4, none⟩ = some (.int .i64 p1) := (hq4.2.blk HBI.out HGB.out (by decide)).cell 4
      have y5 : w4.cell? ⟨g, 5, none⟩ = some (.int .i64 p2) := (hq4.2.blk HBI.out HGB.out (by decide)).cell 5
      have y6 : w4.cell? ⟨g, 6, none⟩ = some (.int .i64 p3) := (hq4.2.blk HBI.out HGB.out (by decide)).cell 6
      go_wp2_with (go_at_call 30; refine (color_pr hq4.1 HCO.out (by omega)).mono ?_)
      rintro e w5 ⟨rfl, hg5⟩
      try intro hg5
      have hq5 := hq4.trans hg5
      have hL5 : (bs ++ clipsT clips ++ [115, 116, 114, 111, 107, 101] ++ colT ⟨sp, p0, p1, p2, p3⟩).length ≤ 210000200 := by rw [List.length_append]; omega
      clear y2 y3 y4 y5 y6
      have y8 : w5.cell? ⟨g, 8, none⟩ = some (.int .i64 pw) := (hq5.2.blk HBI.out HGB.out (by decide)).cell 8
      have y9 : w5.cell? ⟨g, 9, none⟩ = some (.int .i64 pc) := (hq5.2.blk HBI.out HGB.out (by decide)).cell 9
      have y10 : w5.cell? ⟨g, 10, none⟩ = some (.int .i64 pj) := (hq5.2.blk HBI.out HGB.out (by decide)).cell 10
      have y11 : w5.cell? ⟨g, 11, none⟩ = some (.int .i64 pm) := (hq5.2.blk HBI.out HGB.out (by decide)).cell 11
      have y12 : w5.cell? ⟨g, 12, none⟩ = some (.slice Ad nd cd) := (hq5.2.blk HBI.out HGB.out (by decide)).cell 12
      have y13 : w5.cell? ⟨g, 13, none⟩ = some (.int .i64 pf) := (hq5.2.blk HBI.out HGB.out (by decide)).cell 13
      have hpen := HK3.out (by first | rfl | trivial)
      have hpl3 := penT_len _ hpen
      have hdl : dash.length ≤ 11 := by unfold penB at hpen; simp only [Bool.and_eq_true, decide_eq_true_eq] at hpen; exact hpen.1.1.2
      dsimp only at hpl3
      have HPE := hide (pen_pr (cd := cd) hq5.1 (HIT.out _ (HF1.out.trans hq5.2)).dash hpen (by omega))
      go_wp2_with (go_at_call 33; refine (HPE.out).mono ?_)
      rintro e w6 ⟨rfl, hg6⟩
      try intro hg6
      have hg6' : Grew w5 base prT b (bs ++ clipsT clips ++ [115, 116, 114, 111, 107, 101] ++ colT ⟨sp, p0, p1, p2, p3⟩ ++ penT ⟨pw, pc, pj, pm, dash, pf⟩) w6 := by first | exact hg6 | simpa using hg6
      have hq6 := hq5.trans hg6'
      have hL6 : (bs ++ clipsT clips ++ [115, 116, 114, 111, 107, 101] ++ colT ⟨sp, p0, p1, p2, p3⟩ ++ penT ⟨pw, pc, pj, pm, dash, pf⟩).length ≤ 210001000 := by rw [List.length_append]; omega
      clear y8 y9 y10 y11 y12 y13
      have y1 : w6.cell? ⟨g, 1, none⟩ = some (.slice Ap np cp) := (hq6.2.blk HBI.out HGB.out (by decide)).cell 1
      have hpb := HKP.out (by decide)
      have hpT := pathT_len path
      have hpk := (path_ok hpb).1
      have HPP := hide (path_pr (c := cp) hq6.1 (HIT.out _ (HF1.out.trans hq6.2)).path hpb (by omega))
      go_wp2_with (go_at_call 29; refine (HPP.out).mono ?_)
      rintro e w7 ⟨rfl, hg7⟩
      try intro hg7
      have hq7 := hq6.trans hg7
      have hL7 : (bs ++ clipsT clips ++ [115, 116, 114, 111, 107, 101] ++ colT ⟨sp, p0, p1, p2, p3⟩ ++ penT ⟨pw, pc, pj, pm, dash, pf⟩ ++ pathT path).length ≤ 220000000 := by rw [List.length_append]; omega
      clear y1
      go_wp2_with (go_at_call 14; refine (wbyte_any hq7.1 lies_printer (by decide) 10 10 rfl (by omega)).mono ?_)
      rintro e w8 ⟨rfl, hg8⟩
      try intro hg8
      have hfin := Grew.after HHF.out (hq7.trans hg8)
      have HFIN : Hid (Grew w base prT b (bs ++ itemT ⟨3, path, ⟨sp, p0, p1, p2, p3⟩, clips, ⟨pw, pc, pj, pm, dash, pf⟩, fo, ⟨m0, m1, m2, m3, m4, m5⟩, bytes⟩) w8) := hide (by
        have e : bs ++ itemT ⟨3, path, ⟨sp, p0, p1, p2, p3⟩, clips, ⟨pw, pc, pj, pm, dash, pf⟩, fo, ⟨m0, m1, m2, m3, m4, m5⟩, bytes⟩ = bs ++ clipsT clips ++ [115, 116, 114, 111, 107, 101] ++ colT ⟨sp, p0, p1, p2, p3⟩ ++ penT ⟨pw, pc, pj, pm, dash, pf⟩ ++ pathT path ++ [10] := by unfold itemT kindT restT MatD.list; simp
        rw [e]; exact hfin)
      clear hfin
      go_wp2
      go_end0
      exact ⟨rfl, HFIN.out⟩
end Go.Proofs.YtndfdekcdhlgoaaDoor
