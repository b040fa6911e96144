/- Contracts: the reference's SoundPath. -/
import Derived.Test.YtndfdekcdhlgoaaDoorScR12A
set_option linter.unusedVariables false
set_option linter.unusedSimpArgs false
namespace Go.Proofs.YtndfdekcdhlgoaaDoor
open Go.RowKit
theorem upto_succ {P : Nat → Prop} {m : Nat} (h : ∀ q, q < m → P q) (hm : P m) : ∀ q, q < m + 1 → P q := fun q hq => by
  rcases Nat.lt_or_ge q m with h1 | h1
  · exact h q h1
  · obtain rfl : q = m := by omega
    exact hm
theorem seg_false {R : Bool} {l : List SegD} {k : Nat} {d : SegD} {nn : Int} (h : R = (segB (lastK l k) d && segsB (lastK l (k + 1)) (l.drop (k + 1)))) (hn : ptsN d.k = nn) (m : Nat) (hm : m < 3) (hp : ptB nn m (d.px m) (d.py m) = false) : R = false := by
  rw [h, segB_eq, hn]
  rcases (by omega : m = 0 ∨ m = 1 ∨ m = 2) with rfl | rfl | rfl <;> simp only [SegD.px, SegD.py] at hp <;> rw [hp] <;> simp
theorem seg_false2 {R : Bool} {l : List SegD} {k : Nat} {d : SegD} (h : R = (segB (lastK l k) d && segsB (lastK l (k + 1)) (l.drop (k + 1)))) (hp : (decide (d.k = 1) && decide (lastK l k = 1) || (!decide (d.k = 1) && (decide (lastK l k = 0) || decide (lastK l k = 4)))) = true) : R = false := by
  rw [h, segB_eq]
  cases h1 : (decide (d.k = 1) && decide (lastK l k = 1)) <;> cases h2 : (!decide (d.k = 1) && (decide (lastK l k = 0) || decide (lastK l k = 4))) <;> simp_all
theorem seg_false2' {R : Bool} {l : List SegD} {k : Nat} {d : SegD} {y : Int} (h : R = (segB (lastK l k) d && segsB (lastK l (k + 1)) (l.drop (k + 1)))) (hy : lastK l k = y) (hp : (d.k = 1 ∧ y = 1) ∨ (d.k ≠ 1 ∧ (y = 0 ∨ y = 4))) : R = false :=
  seg_false2 h (by rw [hy]; rcases hp with ⟨h1, h2⟩ | ⟨h1, h2⟩ <;> simp [h1, h2])
theorem last_ok {l : List SegD} {k : Nat} {d : SegD} {y : Int} (hy : lastK l k = y) (h : ¬((d.k = 1 ∧ y = 1) ∨ (d.k ≠ 1 ∧ (y = 0 ∨ y = 4)))) : (decide (d.k = 1) && decide (lastK l k = 1) || (!decide (d.k = 1) && (decide (lastK l k = 0) || decide (lastK l k = 4)))) = false := by
  rw [hy, Bool.eq_false_iff]; simp only [ne_eq, Bool.or_eq_true, Bool.and_eq_true, decide_eq_true_eq, Bool.not_eq_true', decide_eq_false_iff_not]; omega
theorem ptB_true {n : Int} {j : Nat} {x y : Int} (h : -2147483648 ≤ x ∧ x ≤ 2147483647 ∧ -2147483648 ≤ y ∧ y ≤ 2147483647) (h2 : (j : Int) < n ∨ x = 0 ∧ y = 0) : ptB n j x y = true := by
  simp only [ptB, pointB, fitsI, zeroB, Bool.and_eq_true, Bool.or_eq_true, decide_eq_true_eq]; omega
theorem ptB_false {n : Int} {j : Nat} {x y : Int} (h : (x < -2147483648 ∨ 2147483647 < x ∨ y < -2147483648 ∨ 2147483647 < y) ∨ (n ≤ (j : Int) ∧ (x ≠ 0 ∨ y ≠ 0))) : ptB n j x y = false := by
  rw [Bool.eq_false_iff]; simp only [ptB, pointB, fitsI, zeroB, ne_eq, Bool.and_eq_true, Bool.or_eq_true, decide_eq_true_eq]; omega
theorem seg_kind {R : Bool} {l : List SegD} {k : Nat} {d : SegD} (h : R = (segB (lastK l k) d && segsB (lastK l (k + 1)) (l.drop (k + 1)))) (hp : ¬(1 ≤ d.k ∧ d.k ≤ 4)) : R = false := by
  rw [h, segB_eq, decide_eq_false hp]
  rfl
theorem seg_next {R : Bool} {l : List SegD} {k : Nat} {d : SegD} {nn : Int} (h : R = (segB (lastK l k) d && segsB (lastK l (k + 1)) (l.drop (k + 1)))) (hd : 1 ≤ d.k ∧ d.k ≤ 4) (hn : ptsN d.k = nn) (hp : ∀ q, q < 3 → ptB nn q (d.px q) (d.py q) = true)
    (h2 : (decide (d.k = 1) && decide (lastK l k = 1) || (!decide (d.k = 1) && (decide (lastK l k = 0) || decide (lastK l k = 4)))) = false) : R = segsB (lastK l (k + 1)) (l.drop (k + 1)) := by
  have p0 := hp 0 (by omega)
  have p1 := hp 1 (by omega)
  have p2 := hp 2 (by omega)
  simp only [SegD.px, SegD.py] at p0 p1 p2
  rw [h, segB_eq, hn, p0, p1, p2, decide_eq_true hd]
  cases h3 : (decide (d.k = 1) && decide (lastK l k = 1)) <;> cases h4 : (!decide (d.k = 1) && (decide (lastK l k = 0) || decide (lastK l k = 4))) <;> simp_all
set_option maxRecDepth 100000 in
set_option maxHeartbeats 8000000 in
theorem soundPath_any {w0 : World} {N : Nat → Prop} {A : Option Addr} {n c : Nat} {l : List SegD} (hl : LR w0 N 7 SegC A n l) (w : World) (hf : Fr [] w0 w) :
    Calls Tryd.prog 50 #[.slice A n c] w fun e w' => e = .returned (.bool (pathB l)) ∧ Fr [] w w' := by
  obtain ⟨R, hR⟩ : ∃ R, R = pathB l := ⟨_, rfl⟩
  rw [← hR]
  by_cases hbig : 4096 < n
  · have hd : decide ((4096 : Int) < (n : Int)) = true := by simp; omega
    have : R = false := by rw [hR]; unfold pathB; rw [hl.len, decide_eq_false (by omega)]; rfl
    subst this
    clear hR hl
    go_enter Tryd.func50, Tryd.ntmps50
    go_wp2
    go_ret
    exact ⟨rfl, (by repeat (first | with_reducible exact Fr.refl _ _ | with_reducible assumption | with_reducible refine Fr.drewN ?_ _ | with_reducible refine Fr.drew ?_ | with_reducible refine Fr.alloc ?_ _ | ((with_reducible refine Fr.setCell ?_ ?_ _) <;> first | (apply Or.inl; simp; done) | (apply Or.inr; simp; done) | (apply Or.inr; simp; omega) | skip) | (refine Fr.then0 ?_ (by with_reducible assumption)) | (refine Fr.trans ?_ (by with_reducible assumption))))⟩
  have hd : decide ((4096 : Int) < (n : Int)) = false := by simp; omega
  have HR : Hid (R = segsB (lastK l 0) (l.drop 0)) := hide (by rw [hR]; unfold pathB; rw [hl.len, decide_eq_true (by omega)]; rfl)
  have HEL := hide (fun (w' : World) (h : Fr [] w0 w') (k : Nat) (hk : k < n) => seg_elem (hl.keep h (by simp) (fun _ _ h => h)) hk)
  have HLN := hide hl.len
  clear hl hR
  go_enter Tryd.func50, Tryd.ntmps50
  go_wp2
  go_loopw [3] (fun i wr => ∃ k : Nat, k ≤ n ∧ i = .int .i64 k ∧ Fr [] w wr ∧ Hid (R = segsB (lastK l k) (l.drop k))) (fun i _ => n - (intOf i).toNat)
  case atStart => exact ⟨0, Nat.zero_le _, rfl, Fr.refl _ _, HR⟩
  case round =>
    obtain ⟨k, hk, rfl, hfr, hrel⟩ := hrel
    by_cases hlt : k < n
    · have hdk : decide ((k : Int) < (n : Int)) = true := by simp; omega
      obtain ⟨ad, d, rfl, hN, hlk, a0, a1, a2, a3, a4, a5, a6⟩ := HEL.out wr (hf.trans hfr) k hlt
      have HSTEP := hide (hrel.out.trans (segs_step hlk))
      have hkd : ((d.k == 1) = true ∧ (d.k == 2) = false ∧ (d.k == 3) = false ∧ (d.k == 4) = false) ∨ ((d.k == 1) = false ∧ (d.k == 2) = true ∧ (d.k == 3) = false ∧ (d.k == 4) = false) ∨ ((d.k == 1) = false ∧ (d.k == 2) = false ∧ (d.k == 3) = true ∧ (d.k == 4) = false) ∨ ((d.k == 1) = false ∧ (d.k == 2) = false ∧ (d.k == 3) = false ∧ (d.k == 4) = true) ∨ ((d.k == 1) = false ∧ (d.k == 2) = false ∧ (d.k == 3) = false ∧ (d.k == 4) = false) := by
        simp only [beq_iff_eq, beq_eq_false_iff_ne]; omega
      rcases hkd with ⟨k1, k2, k3, k4⟩ | ⟨k1, k2, k3, k4⟩ | ⟨k1, k2, k3, k4⟩ | ⟨k1, k2, k3, k4⟩ | ⟨k1, k2, k3, k4⟩
      · go_wp2
        obtain ⟨g, hg⟩ : ∃ g, g = wr.heap.size := ⟨_, rfl⟩
        obtain ⟨W1, hW1⟩ : ∃ W1, W1 = wr.alloc (.cells #[.int .i64 d.k, .int .i64 d.x0, .int .i64 d.y0, .int .i64 d.x1, .int .i64 d.y1, .int .i64 d.x2, .int .i64 d.y2] 91) := ⟨_, rfl⟩
        have hB : Blk W1 g 91 #[.int .i64 d.k, .int .i64 d.x0, .int .i64 d.y0, .int .i64 d.x1, .int .i64 d.y1, .int .i64 d.x2, .int .i64 d.y2] := by rw [hW1, hg]; exact Blk.new _ _ _
        have hf1 : Fr [] wr W1 := by rw [hW1]; exact (by repeat (first | with_reducible exact Fr.refl _ _ | with_reducible assumption | with_reducible refine Fr.drewN ?_ _ | with_reducible refine Fr.drew ?_ | with_reducible refine Fr.alloc ?_ _ | ((with_reducible refine Fr.setCell ?_ ?_ _) <;> first | (apply Or.inl; simp; done) | (apply Or.inr; simp; done) | (apply Or.inr; simp; omega) | skip) | (refine Fr.then0 ?_ (by with_reducible assumption)) | (refine Fr.trans ?_ (by with_reducible assumption))))
        rw [← hW1, ← hg]
        clear hW1 hg a0 a1 a2 a3 a4 a5 a6
        generalize Value.agg #[.int .i64 d.k, .int .i64 d.x0, .int .i64 d.y0, .int .i64 d.x1, .int .i64 d.y1, .int .i64 d.x2, .int .i64 d.y2] = ag
        have hdk1 : d.k = 1 := by simpa using k1
        have HNN : Hid (ptsN d.k = 1) := hide (by rw [hdk1]; rfl)
        have HFR := hide (hfr.trans hf1)
        go_loopw [6] (fun j w2 => ∃ m : Nat, m ≤ 3 ∧ j = .int .i64 m ∧ Fr [] W1 w2 ∧ Hid (∀ q, q < m → ptB 1 q (d.px q) (d.py q) = true)) (fun j _ => 3 - (intOf j).toNat)
        case atStart => exact ⟨0, by omega, rfl, Fr.refl _ _, hide (fun q hq => absurd hq (by omega))⟩
        case round =>
          rename_i wr0 hrel0
          obtain ⟨m, hm, rfl, hfr2, hpt⟩ := hrel
          have hB2 := hB.keep hfr2 (by simp)
          obtain ⟨c0, c1, c2, c3, c4, c5, c6, cz⟩ := hB2.c7
          have hgl := hB2.lt
          have hgn := Nat.ne_of_lt hgl
          rcases (by omega : m = 0 ∨ m = 1 ∨ m = 2 ∨ m = 3) with rfl | rfl | rfl | rfl
          · rw [show ((0 : Nat) : Int) = 0 from rfl]
            clear hrel0 hlk hN hdk hd hdk1 hB hB2 hf1 hfr hf hk HEL HR HLN
            go_wp2
            all_goals
              first
                | (refine ⟨⟨1, by omega, rfl, hfr2.trans (by repeat (first | with_reducible exact Fr.refl _ _ | with_reducible assumption | with_reducible refine Fr.drewN ?_ _ | with_reducible refine Fr.drew ?_ | with_reducible refine Fr.alloc ?_ _ | ((with_reducible refine Fr.setCell ?_ ?_ _) <;> first | (apply Or.inl; simp; done) | (apply Or.inr; simp; done) | (apply Or.inr; simp; omega) | skip) | (refine Fr.then0 ?_ (by with_reducible assumption)) | (refine Fr.trans ?_ (by with_reducible assumption)))), hide (upto_succ hpt.out ?_)⟩, by simp [intOf]⟩; exact (show ptB 1 0 d.x0 d.y0 = true from ptB_true (by first | omega | (have hb : (d.y0 != 0) = true := (by assumption); have hb2 : d.y0 ≠ 0 := (by simpa using hb); omega) | (have hb : (d.y0 != 0) = false := (by assumption); have hb2 : d.y0 = 0 := (by simpa using hb); omega)) (by first | omega | (have hb : (d.y0 != 0) = true := (by assumption); have hb2 : d.y0 ≠ 0 := (by simpa using hb); omega) | (have hb : (d.y0 != 0) = false := (by assumption); have hb2 : d.y0 = 0 := (by simpa using hb); omega))))
                | (go_ret; refine ⟨?_, (HFR.out.trans hfr2).trans (by repeat (first | with_reducible exact Fr.refl _ _ | with_reducible assumption | with_reducible refine Fr.drewN ?_ _ | with_reducible refine Fr.drew ?_ | with_reducible refine Fr.alloc ?_ _ | ((with_reducible refine Fr.setCell ?_ ?_ _) <;> first | (apply Or.inl; simp; done) | (apply Or.inr; simp; done) | (apply Or.inr; simp; omega) | skip) | (refine Fr.then0 ?_ (by with_reducible assumption)) | (refine Fr.trans ?_ (by with_reducible assumption))))⟩; rw [seg_false HSTEP.out HNN.out 0 (by omega) (show ptB 1 0 d.x0 d.y0 = false from ptB_false (by first | omega | (have hb : (d.y0 != 0) = true := (by assumption); have hb2 : d.y0 ≠ 0 := (by simpa using hb); omega) | (have hb : (d.y0 != 0) = false := (by assumption); have hb2 : d.y0 = 0 := (by simpa using hb); omega)))]; rfl)
          · rw [show ((1 : Nat) : Int) = 1 from rfl]
            clear hrel0 hlk hN hdk hd hdk1 hB hB2 hf1 hfr hf hk HEL HR HLN
            go_wp2
            all_goals
              first
                | (refine ⟨⟨2, by omega, rfl, hfr2.trans (by repeat (first | with_reducible exact Fr.refl _ _ | with_reducible assumption | with_reducible refine Fr.drewN ?_ _ | with_reducible refine Fr.drew ?_ | with_reducible refine Fr.alloc ?_ _ | ((with_reducible refine Fr.setCell ?_ ?_ _) <;> first | (apply Or.inl; simp; done) | (apply Or.inr; simp; done) | (apply Or.inr; simp; omega) | skip) | (refine Fr.then0 ?_ (by with_reducible assumption)) | (refine Fr.trans ?_ (by with_reducible assumption)))), hide (upto_succ hpt.out ?_)⟩, by simp [intOf]⟩; exact (show ptB 1 1 d.x1 d.y1 = true from ptB_true (by first | omega | (have hb : (d.y1 != 0) = true := (by assumption); have hb2 : d.y1 ≠ 0 := (by simpa using hb); omega) | (have hb : (d.y1 != 0) = false := (by assumption); have hb2 : d.y1 = 0 := (by simpa using hb); omega)) (by first | omega | (have hb : (d.y1 != 0) = true := (by assumption); have hb2 : d.y1 ≠ 0 := (by simpa using hb); omega) | (have hb : (d.y1 != 0) = false := (by assumption); have hb2 : d.y1 = 0 := (by simpa using hb); omega))))
                | (go_ret; refine ⟨?_, (HFR.out.trans hfr2).trans (by repeat (first | with_reducible exact Fr.refl _ _ | with_reducible assumption | with_reducible refine Fr.drewN ?_ _ | with_reducible refine Fr.drew ?_ | with_reducible refine Fr.alloc ?_ _ | ((with_reducible refine Fr.setCell ?_ ?_ _) <;> first | (apply Or.inl; simp; done) | (apply Or.inr; simp; done) | (apply Or.inr; simp; omega) | skip) | (refine Fr.then0 ?_ (by with_reducible assumption)) | (refine Fr.trans ?_ (by with_reducible assumption))))⟩; rw [seg_false HSTEP.out HNN.out 1 (by omega) (show ptB 1 1 d.x1 d.y1 = false from ptB_false (by first | omega | (have hb : (d.y1 != 0) = true := (by assumption); have hb2 : d.y1 ≠ 0 := (by simpa using hb); omega) | (have hb : (d.y1 != 0) = false := (by assumption); have hb2 : d.y1 = 0 := (by simpa using hb); omega)))]; rfl)
          · rw [show ((2 : Nat) : Int) = 2 from rfl]
            clear hrel0 hlk hN hdk hd hdk1 hB hB2 hf1 hfr hf hk HEL HR HLN
            go_wp2
            all_goals
              first
                | (refine ⟨⟨3, by omega, rfl, hfr2.trans (by repeat (first | with_reducible exact Fr.refl _ _ | with_reducible assumption | with_reducible refine Fr.drewN ?_ _ | with_reducible refine Fr.drew ?_ | with_reducible refine Fr.alloc ?_ _ | ((with_reducible refine Fr.setCell ?_ ?_ _) <;> first | (apply Or.inl; simp; done) | (apply Or.inr; simp; done) | (apply Or.inr; simp; omega) | skip) | (refine Fr.then0 ?_ (by with_reducible assumption)) | (refine Fr.trans ?_ (by with_reducible assumption)))), hide (upto_succ hpt.out ?_)⟩, by simp [intOf]⟩; exact (show ptB 1 2 d.x2 d.y2 = true from ptB_true (by first | omega | (have hb : (d.y2 != 0) = true := (by assumption); have hb2 : d.y2 ≠ 0 := (by simpa using hb); omega) | (have hb : (d.y2 != 0) = false := (by assumption); have hb2 : d.y2 = 0 := (by simpa using hb); omega)) (by first | omega | (have hb : (d.y2 != 0) = true := (by assumption); have hb2 : d.y2 ≠ 0 := (by simpa using hb); omega) | (have hb : (d.y2 != 0) = false := (by assumption); have hb2 : d.y2 = 0 := (by simpa using hb); omega))))
                | (go_ret; refine ⟨?_, (HFR.out.trans hfr2).trans (by repeat (first | with_reducible exact Fr.refl _ _ | with_reducible assumption | with_reducible refine Fr.drewN ?_ _ | with_reducible refine Fr.drew ?_ | with_reducible refine Fr.alloc ?_ _ | ((with_reducible refine Fr.setCell ?_ ?_ _) <;> first | (apply Or.inl; simp; done) | (apply Or.inr; simp; done) | (apply Or.inr; simp; omega) | skip) | (refine Fr.then0 ?_ (by with_reducible assumption)) | (refine Fr.trans ?_ (by with_reducible assumption))))⟩; rw [seg_false HSTEP.out HNN.out 2 (by omega) (show ptB 1 2 d.x2 d.y2 = false from ptB_false (by first | omega | (have hb : (d.y2 != 0) = true := (by assumption); have hb2 : d.y2 ≠ 0 := (by simpa using hb); omega) | (have hb : (d.y2 != 0) = false := (by assumption); have hb2 : d.y2 = 0 := (by simpa using hb); omega)))]; rfl)
          · rw [show ((3 : Nat) : Int) = 3 from rfl]
            by_cases h0 : 0 < k
            · have hd0 : decide ((0 : Int) < (k : Int)) = true := by simp; omega
              have hk1 : (k : Int) - 1 = ((k - 1 : Nat) : Int) := by omega
              obtain ⟨ad', d', hadd, _, hlk', b0, _⟩ := HEL.out _ (hf.trans hfr) (k - 1) (by omega)
              obtain rfl : ad = ad' := by injection hadd
              have hlast : lastK l k = d'.k := by unfold lastK; rw [if_neg (by omega), hlk']; rfl
              have b1 := (hf1.trans hfr2).cell b0 (by simp)
              have HL := hide hlast
              clear hlast hlk' b0
              go_wp2
              all_goals
                first
                  | (refine ⟨⟨k + 1, by omega, by go_num, (HFR.out.trans hfr2).trans (by repeat (first | with_reducible exact Fr.refl _ _ | with_reducible assumption | with_reducible refine Fr.drewN ?_ _ | with_reducible refine Fr.drew ?_ | with_reducible refine Fr.alloc ?_ _ | ((with_reducible refine Fr.setCell ?_ ?_ _) <;> first | (apply Or.inl; simp; done) | (apply Or.inr; simp; done) | (apply Or.inr; simp; omega) | skip) | (refine Fr.then0 ?_ (by with_reducible assumption)) | (refine Fr.trans ?_ (by with_reducible assumption)))), hide (seg_next HSTEP.out (by omega) HNN.out hpt.out ?_)⟩, by simp [intOf]; omega⟩; exact last_ok HL.out (by first | omega | (simp_all; done) | (simp only [bne_iff_ne, ne_eq, bne_eq_false_iff_eq, beq_iff_eq, beq_eq_false_iff_ne, decide_eq_true_eq, decide_eq_false_iff_not] at *; omega)))
                  | (go_ret; refine ⟨?_, (HFR.out.trans hfr2).trans (by repeat (first | with_reducible exact Fr.refl _ _ | with_reducible assumption | with_reducible refine Fr.drewN ?_ _ | with_reducible refine Fr.drew ?_ | with_reducible refine Fr.alloc ?_ _ | ((with_reducible refine Fr.setCell ?_ ?_ _) <;> first | (apply Or.inl; simp; done) | (apply Or.inr; simp; done) | (apply Or.inr; simp; omega) | skip) | (refine Fr.then0 ?_ (by with_reducible assumption)) | (refine Fr.trans ?_ (by with_reducible assumption))))⟩; rw [seg_false2' HSTEP.out HL.out (by first | omega | (simp_all; done) | (simp only [bne_iff_ne, ne_eq, bne_eq_false_iff_eq, beq_iff_eq, beq_eq_false_iff_ne, decide_eq_true_eq, decide_eq_false_iff_not] at *; omega))]; rfl)
            · have hd0 : decide ((0 : Int) < (k : Int)) = false := by simp; omega
              have HL : Hid (lastK l k = 0) := hide (by unfold lastK; rw [if_pos (by omega)])
              go_wp2
              all_goals
                first
                  | (refine ⟨⟨k + 1, by omega, by go_num, (HFR.out.trans hfr2).trans (by repeat (first | with_reducible exact Fr.refl _ _ | with_reducible assumption | with_reducible refine Fr.drewN ?_ _ | with_reducible refine Fr.drew ?_ | with_reducible refine Fr.alloc ?_ _ | ((with_reducible refine Fr.setCell ?_ ?_ _) <;> first | (apply Or.inl; simp; done) | (apply Or.inr; simp; done) | (apply Or.inr; simp; omega) | skip) | (refine Fr.then0 ?_ (by with_reducible assumption)) | (refine Fr.trans ?_ (by with_reducible assumption)))), hide (seg_next HSTEP.out (by omega) HNN.out hpt.out ?_)⟩, by simp [intOf]; omega⟩; exact last_ok HL.out (by first | omega | (simp_all; done) | (simp only [bne_iff_ne, ne_eq, bne_eq_false_iff_eq, beq_iff_eq, beq_eq_false_iff_ne, decide_eq_true_eq, decide_eq_false_iff_not] at *; omega)))
                  | (go_ret; refine ⟨?_, (HFR.out.trans hfr2).trans (by repeat (first | with_reducible exact Fr.refl _ _ | with_reducible assumption | with_reducible refine Fr.drewN ?_ _ | with_reducible refine Fr.drew ?_ | with_reducible refine Fr.alloc ?_ _ | ((with_reducible refine Fr.setCell ?_ ?_ _) <;> first | (apply Or.inl; simp; done) | (apply Or.inr; simp; done) | (apply Or.inr; simp; omega) | skip) | (refine Fr.then0 ?_ (by with_reducible assumption)) | (refine Fr.trans ?_ (by with_reducible assumption))))⟩; rw [seg_false2' HSTEP.out HL.out (by first | omega | (simp_all; done) | (simp only [bne_iff_ne, ne_eq, bne_eq_false_iff_eq, beq_iff_eq, beq_eq_false_iff_ne, decide_eq_true_eq, decide_eq_false_iff_not] at *; omega))]; rfl)
      · go_wp2
        obtain ⟨g, hg⟩ : ∃ g, g = wr.heap.size := ⟨_, rfl⟩
        obtain ⟨W1, hW1⟩ : ∃ W1, W1 = wr.alloc (.cells #[.int .i64 d.k, .int .i64 d.x0, .int .i64 d.y0, .int .i64 d.x1, .int .i64 d.y1, .int .i64 d.x2, .int .i64 d.y2] 91) := ⟨_, rfl⟩
        have hB : Blk W1 g 91 #[.int .i64 d.k, .int .i64 d.x0, .int .i64 d.y0, .int .i64 d.x1, .int .i64 d.y1, .int .i64 d.x2, .int .i64 d.y2] := by rw [hW1, hg]; exact Blk.new _ _ _
        have hf1 : Fr [] wr W1 := by rw [hW1]; exact (by repeat (first | with_reducible exact Fr.refl _ _ | with_reducible assumption | with_reducible refine Fr.drewN ?_ _ | with_reducible refine Fr.drew ?_ | with_reducible refine Fr.alloc ?_ _ | ((with_reducible refine Fr.setCell ?_ ?_ _) <;> first | (apply Or.inl; simp; done) | (apply Or.inr; simp; done) | (apply Or.inr; simp; omega) | skip) | (refine Fr.then0 ?_ (by with_reducible assumption)) | (refine Fr.trans ?_ (by with_reducible assumption))))
        rw [← hW1, ← hg]
        clear hW1 hg a0 a1 a2 a3 a4 a5 a6
        generalize Value.agg #[.int .i64 d.k, .int .i64 d.x0, .int .i64 d.y0, .int .i64 d.x1, .int .i64 d.y1, .int .i64 d.x2, .int .i64 d.y2] = ag
        have hdk1 : d.k = 2 := by simpa using k2
        have HNN : Hid (ptsN d.k = 1) := hide (by rw [hdk1]; rfl)
        have HFR := hide (hfr.trans hf1)
        go_loopw [6] (fun j w2 => ∃ m : Nat, m ≤ 3 ∧ j = .int .i64 m ∧ Fr [] W1 w2 ∧ Hid (∀ q, q < m → ptB 1 q (d.px q) (d.py q) = true)) (fun j _ => 3 - (intOf j).toNat)
        case atStart => exact ⟨0, by omega, rfl, Fr.refl _ _, hide (fun q hq => absurd hq (by omega))⟩
        case round =>
          rename_i wr0 hrel0
          obtain ⟨m, hm, rfl, hfr2, hpt⟩ := hrel
          have hB2 := hB.keep hfr2 (by simp)
          obtain ⟨c0, c1, c2, c3, c4, c5, c6, cz⟩ := hB2.c7
          have hgl := hB2.lt
          have hgn := Nat.ne_of_lt hgl
          rcases (by omega : m = 0 ∨ m = 1 ∨ m = 2 ∨ m = 3) with rfl | rfl | rfl | rfl
          · rw [show ((0 : Nat) : Int) = 0 from rfl]
            clear hrel0 hlk hN hdk hd hdk1 hB hB2 hf1 hfr hf hk HEL HR HLN
            go_wp2
            all_goals
              first
                | (refine ⟨⟨1, by omega, rfl, hfr2.trans (by repeat (first | with_reducible exact Fr.refl _ _ | with_reducible assumption | with_reducible refine Fr.drewN ?_ _ | with_reducible refine Fr.drew ?_ | with_reducible refine Fr.alloc ?_ _ | ((with_reducible refine Fr.setCell ?_ ?_ _) <;> first | (apply Or.inl; simp; done) | (apply Or.inr; simp; done) | (apply Or.inr; simp; omega) | skip) | (refine Fr.then0 ?_ (by with_reducible assumption)) | (refine Fr.trans ?_ (by with_reducible assumption)))), hide (upto_succ hpt.out ?_)⟩, by simp [intOf]⟩; exact (show ptB 1 0 d.x0 d.y0 = true from ptB_true (by first | omega | (have hb : (d.y0 != 0) = true := (by assumption); have hb2 : d.y0 ≠ 0 := (by simpa using hb); omega) | (have hb : (d.y0 != 0) = false := (by assumption); have hb2 : d.y0 = 0 := (by simpa using hb); omega)) (by first | omega | (have hb : (d.y0 != 0) = true := (by assumption); have hb2 : d.y0 ≠ 0 := (by simpa using hb); omega) | (have hb : (d.y0 != 0) = false := (by assumption); have hb2 : d.y0 = 0 := (by simpa using hb); omega))))
                | (go_ret; refine ⟨?_, (HFR.out.trans hfr2).trans (by repeat (first | with_reducible exact Fr.refl _ _ | with_reducible assumption | with_reducible refine Fr.drewN ?_ _ | with_reducible refine Fr.drew ?_ | with_reducible refine Fr.alloc ?_ _ | ((with_reducible refine Fr.setCell ?_ ?_ _) <;> first | (apply Or.inl; simp; done) | (apply Or.inr; simp; done) | (apply Or.inr; simp; omega) | skip) | (refine Fr.then0 ?_ (by with_reducible assumption)) | (refine Fr.trans ?_ (by with_reducible assumption))))⟩; rw [seg_false HSTEP.out HNN.out 0 (by omega) (show ptB 1 0 d.x0 d.y0 = false from ptB_false (by first | omega | (have hb : (d.y0 != 0) = true := (by assumption); have hb2 : d.y0 ≠ 0 := (by simpa using hb); omega) | (have hb : (d.y0 != 0) = false := (by assumption); have hb2 : d.y0 = 0 := (by simpa using hb); omega)))]; rfl)
          · rw [show ((1 : Nat) : Int) = 1 from rfl]
            clear hrel0 hlk hN hdk hd hdk1 hB hB2 hf1 hfr hf hk HEL HR HLN
            go_wp2
            all_goals
              first
                | (refine ⟨⟨2, by omega, rfl, hfr2.trans (by repeat (first | with_reducible exact Fr.refl _ _ | with_reducible assumption | with_reducible refine Fr.drewN ?_ _ | with_reducible refine Fr.drew ?_ | with_reducible refine Fr.alloc ?_ _ | ((with_reducible refine Fr.setCell ?_ ?_ _) <;> first | (apply Or.inl; simp; done) | (apply Or.inr; simp; done) | (apply Or.inr; simp; omega) | skip) | (refine Fr.then0 ?_ (by with_reducible assumption)) | (refine Fr.trans ?_ (by with_reducible assumption)))), hide (upto_succ hpt.out ?_)⟩, by simp [intOf]⟩; exact (show ptB 1 1 d.x1 d.y1 = true from ptB_true (by first | omega | (have hb : (d.y1 != 0) = true := (by assumption); have hb2 : d.y1 ≠ 0 := (by simpa using hb); omega) | (have hb : (d.y1 != 0) = false := (by assumption); have hb2 : d.y1 = 0 := (by simpa using hb); omega)) (by first | omega | (have hb : (d.y1 != 0) = true := (by assumption); have hb2 : d.y1 ≠ 0 := (by simpa using hb); omega) | (have hb : (d.y1 != 0) = false := (by assumption); have hb2 : d.y1 = 0 := (by simpa using hb); omega))))
                | (go_ret; refine ⟨?_, (HFR.out.trans hfr2).trans (by repeat (first | with_reducible exact Fr.refl _ _ | with_reducible assumption | with_reducible refine Fr.drewN ?_ _ | with_reducible refine Fr.drew ?_ | with_reducible refine Fr.alloc ?_ _ | ((with_reducible refine Fr.setCell ?_ ?_ _) <;> first | (apply Or.inl; simp; done) | (apply Or.inr; simp; done) | (apply Or.inr; simp; omega) | skip) | (refine Fr.then0 ?_ (by with_reducible assumption)) | (refine Fr.trans ?_ (by with_reducible assumption))))⟩; rw [seg_false HSTEP.out HNN.out 1 (by omega) (show ptB 1 1 d.x1 d.y1 = false from ptB_false (by first | omega | (have hb : (d.y1 != 0) = true := (by assumption); have hb2 : d.y1 ≠ 0 := (by simpa using hb); omega) | (have hb : (d.y1 != 0) = false := (by assumption); have hb2 : d.y1 = 0 := (by simpa using hb); omega)))]; rfl)
          · rw [show ((2 : Nat) : Int) = 2 from rfl]
            clear hrel0 hlk hN hdk hd hdk1 hB hB2 hf1 hfr hf hk HEL HR HLN
            go_wp2
            all_goals
              first
                | (refine ⟨⟨3, by omega, rfl, hfr2.trans (by repeat (first | with_reducible exact Fr.refl _ _ | with_reducible assumption | with_reducible refine Fr.drewN ?_ _ | with_reducible refine Fr.drew ?_ | with_reducible refine Fr.alloc ?_ _ | ((with_reducible refine Fr.setCell ?_ ?_ _) <;> first | (apply Or.inl; simp; done) | (apply Or.inr; simp; done) | (apply Or.inr; simp; omega) | skip) | (refine Fr.then0 ?_ (by with_reducible assumption)) | (refine Fr.trans ?_ (by with_reducible assumption)))), hide (upto_succ hpt.out ?_)⟩, by simp [intOf]⟩; exact (show ptB 1 2 d.x2 d.y2 = true from ptB_true (by first | omega | (have hb : (d.y2 != 0) = true := (by assumption); have hb2 : d.y2 ≠ 0 := (by simpa using hb); omega) | (have hb : (d.y2 != 0) = false := (by assumption); have hb2 : d.y2 = 0 := (by simpa using hb); omega)) (by first | omega | (have hb : (d.y2 != 0) = true := (by assumption); have hb2 : d.y2 ≠ 0 := (by simpa using hb); omega) | (have hb : (d.y2 != 0) = false := (by assumption); have hb2 : d.y2 = 0 := (by simpa using hb); omega))))
                | (go_ret; refine ⟨?_, (HFR.out.trans hfr2).trans (by repeat (first | with_reducible exact Fr.refl _ _ | with_reducible assumption | with_reducible refine Fr.drewN ?_ _ | with_reducible refine Fr.drew ?_ | with_reducible refine Fr.alloc ?_ _ | ((with_reducible refine Fr.setCell ?_ ?_ _) <;> first | (apply Or.inl; simp; done) | (apply Or.inr; simp; done) | (apply Or.inr; simp; omega) | skip) | (refine Fr.then0 ?_ (by with_reducible assumption)) | (refine Fr.trans ?_ (by with_reducible assumption))))⟩; rw [seg_false HSTEP.out HNN.out 2 (by omega) (show ptB 1 2 d.x2 d.y2 = false from ptB_false (by first | omega | (have hb : (d.y2 != 0) = true := (by assumption); have hb2 : d.y2 ≠ 0 := (by simpa using hb); omega) | (have hb : (d.y2 != 0) = false := (by assumption); have hb2 : d.y2 = 0 := (by simpa using hb); omega)))]; rfl)
          · rw [show ((3 : Nat) : Int) = 3 from rfl]
            by_cases h0 : 0 < k
            · have hd0 : decide ((0 : Int) < (k : Int)) = true := by simp; omega
              have hk1 : (k : Int) - 1 = ((k - 1 : Nat) : Int) := by omega
              obtain ⟨ad', d', hadd, _, hlk', b0, _⟩ := HEL.out _ (hf.trans hfr) (k - 1) (by omega)
              obtain rfl : ad = ad' := by injection hadd
              have hlast : lastK l k = d'.k := by unfold lastK; rw [if_neg (by omega), hlk']; rfl
              have b1 := (hf1.trans hfr2).cell b0 (by simp)
              have HL := hide hlast
              clear hlast hlk' b0
              go_wp2
              all_goals
                first
                  | (refine ⟨⟨k + 1, by omega, by go_num, (HFR.out.trans hfr2).trans (by repeat (first | with_reducible exact Fr.refl _ _ | with_reducible assumption | with_reducible refine Fr.drewN ?_ _ | with_reducible refine Fr.drew ?_ | with_reducible refine Fr.alloc ?_ _ | ((with_reducible refine Fr.setCell ?_ ?_ _) <;> first | (apply Or.inl; simp; done) | (apply Or.inr; simp; done) | (apply Or.inr; simp; omega) | skip) | (refine Fr.then0 ?_ (by with_reducible assumption)) | (refine Fr.trans ?_ (by with_reducible assumption)))), hide (seg_next HSTEP.out (by omega) HNN.out hpt.out ?_)⟩, by simp [intOf]; omega⟩; exact last_ok HL.out (by first | omega | (simp_all; done) | (simp only [bne_iff_ne, ne_eq, bne_eq_false_iff_eq, beq_iff_eq, beq_eq_false_iff_ne, decide_eq_true_eq, decide_eq_false_iff_not] at *; omega)))
                  | (go_ret; refine ⟨?_, (HFR.out.trans hfr2).trans (by repeat (first | with_reducible exact Fr.refl _ _ | with_reducible assumption | with_reducible refine Fr.drewN ?_ _ | with_reducible refine Fr.drew ?_ | with_reducible refine Fr.alloc ?_ _ | ((with_reducible refine Fr.setCell ?_ ?_ _) <;> first | (apply Or.inl; simp; done) | (apply Or.inr; simp; done) | (apply Or.inr; simp; omega) | skip) | (refine Fr.then0 ?_ (by with_reducible assumption)) | (refine Fr.trans ?_ (by with_reducible assumption))))⟩; rw [seg_false2' HSTEP.out HL.out (by first | omega | (simp_all; done) | (simp only [bne_iff_ne, ne_eq, bne_eq_false_iff_eq, beq_iff_eq, beq_eq_false_iff_ne, decide_eq_true_eq, decide_eq_false_iff_not] at *; omega))]; rfl)
            · have hd0 : decide ((0 : Int) < (k : Int)) = false := by simp; omega
              have HL : Hid (lastK l k = 0) := hide (by unfold lastK; rw [if_pos (by omega)])
              go_wp2
              all_goals
                first
                  | (refine ⟨⟨k + 1, by omega, by go_num, (HFR.out.trans hfr2).trans (by repeat (first | with_reducible exact Fr.refl _ _ | with_reducible assumption | with_reducible refine Fr.drewN ?_ _ | with_reducible refine Fr.drew ?_ | with_reducible refine Fr.alloc ?_ _ | ((with_reducible refine Fr.setCell ?_ ?_ _) <;> first | (apply Or.inl; simp; done) | (apply Or.inr; simp; done) | (apply Or.inr; simp; omega) | skip) | (refine Fr.then0 ?_ (by with_reducible assumption)) | (refine Fr.trans ?_ (by with_reducible assumption)))), hide (seg_next HSTEP.out (by omega) HNN.out hpt.out ?_)⟩, by simp [intOf]; omega⟩; exact last_ok HL.out (by first | omega | (simp_all; done) | (simp only [bne_iff_ne, ne_eq, bne_eq_false_iff_eq, beq_iff_eq, beq_eq_false_iff_ne, decide_eq_true_eq, decide_eq_false_iff_not] at *; omega)))
                  | (go_ret; refine ⟨?_, (HFR.out.trans hfr2).trans (by repeat (first | with_reducible exact Fr.refl _ _ | with_reducible assumption | with_reducible refine Fr.drewN ?_ _ | with_reducible refine Fr.drew ?_ | with_reducible refine Fr.alloc ?_ _ | ((with_reducible refine Fr.setCell ?_ ?_ _) <;> first | (apply Or.inl; simp; done) | (apply Or.inr; simp; done) | (apply Or.inr; simp; omega) | skip) | (refine Fr.then0 ?_ (by with_reducible assumption)) | (refine Fr.trans ?_ (by with_reducible assumption))))⟩; rw [seg_false2' HSTEP.out HL.out (by first | omega | (simp_all; done) | (simp only [bne_iff_ne, ne_eq, bne_eq_false_iff_eq, beq_iff_eq, beq_eq_false_iff_ne, decide_eq_true_eq, decide_eq_false_iff_not] at *; omega))]; rfl)
      · go_wp2
        obtain ⟨g, hg⟩ : ∃ g, g = wr.heap.size := ⟨_, rfl⟩
        obtain ⟨W1, hW1⟩ : ∃ W1, W1 = wr.alloc (.cells #[.int .i64 d.k, .int .i64 d.x0, .int .i64 d.y0, .int .i64 d.x1, .int .i64 d.y1, .int .i64 d.x2, .int .i64 d.y2] 91) := ⟨_, rfl⟩
        have hB : Blk W1 g 91 #[.int .i64 d.k, .int .i64 d.x0, .int .i64 d.y0, .int .i64 d.x1, .int .i64 d.y1, .int .i64 d.x2, .int .i64 d.y2] := by rw [hW1, hg]; exact Blk.new _ _ _
        have hf1 : Fr [] wr W1 := by rw [hW1]; exact (by repeat (first | with_reducible exact Fr.refl _ _ | with_reducible assumption | with_reducible refine Fr.drewN ?_ _ | with_reducible refine Fr.drew ?_ | with_reducible refine Fr.alloc ?_ _ | ((with_reducible refine Fr.setCell ?_ ?_ _) <;> first | (apply Or.inl; simp; done) | (apply Or.inr; simp; done) | (apply Or.inr; simp; omega) | skip) | (refine Fr.then0 ?_ (by with_reducible assumption)) | (refine Fr.trans ?_ (by with_reducible assumption))))
        rw [← hW1, ← hg]
        clear hW1 hg a0 a1 a2 a3 a4 a5 a6
        generalize Value.agg #[.int .i64 d.k, .int .i64 d.x0, .int .i64 d.y0, .int .i64 d.x1, .int .i64 d.y1, .int .i64 d.x2, .int .i64 d.y2] = ag
        have hdk1 : d.k = 3 := by simpa using k3
        have HNN : Hid (ptsN d.k = 3) := hide (by rw [hdk1]; rfl)
        have HFR := hide (hfr.trans hf1)
        go_loopw [6] (fun j w2 => ∃ m : Nat, m ≤ 3 ∧ j = .int .i64 m ∧ Fr [] W1 w2 ∧ Hid (∀ q, q < m → ptB 3 q (d.px q) (d.py q) = true)) (fun j _ => 3 - (intOf j).toNat)
        case atStart => exact ⟨0, by omega, rfl, Fr.refl _ _, hide (fun q hq => absurd hq (by omega))⟩
        case round =>
          rename_i wr0 hrel0
          obtain ⟨m, hm, rfl, hfr2, hpt⟩ := hrel
          have hB2 := hB.keep hfr2 (by simp)
          obtain ⟨c0, c1, c2, c3, c4, c5, c6, cz⟩ := hB2.c7
          have hgl := hB2.lt
          have hgn := Nat.ne_of_lt hgl
          rcases (by omega : m = 0 ∨ m = 1 ∨ m = 2 ∨ m = 3) with rfl | rfl | rfl | rfl
          · rw [show ((0 : Nat) : Int) = 0 from rfl]
            clear hrel0 hlk hN hdk hd hdk1 hB hB2 hf1 hfr hf hk HEL HR HLN
            go_wp2
            all_goals
              first
                | (refine ⟨⟨1, by omega, rfl, hfr2.trans (by repeat (first | with_reducible exact Fr.refl _ _ | with_reducible assumption | with_reducible refine Fr.drewN ?_ _ | with_reducible refine Fr.drew ?_ | with_reducible refine Fr.alloc ?_ _ | ((with_reducible refine Fr.setCell ?_ ?_ _) <;> first | (apply Or.inl; simp; done) | (apply Or.inr; simp; done) | (apply Or.inr; simp; omega) | skip) | (refine Fr.then0 ?_ (by with_reducible assumption)) | (refine Fr.trans ?_ (by with_reducible assumption)))), hide (upto_succ hpt.out ?_)⟩, by simp [intOf]⟩; exact (show ptB 3 0 d.x0 d.y0 = true from ptB_true (by first | omega | (have hb : (d.y0 != 0) = true := (by assumption); have hb2 : d.y0 ≠ 0 := (by simpa using hb); omega) | (have hb : (d.y0 != 0) = false := (by assumption); have hb2 : d.y0 = 0 := (by simpa using hb); omega)) (by first | omega | (have hb : (d.y0 != 0) = true := (by assumption); have hb2 : d.y0 ≠ 0 := (by simpa using hb); omega) | (have hb : (d.y0 != 0) = false := (by assumption); have hb2 : d.y0 = 0 := (by simpa using hb); omega))))
                | (go_ret; refine ⟨?_, (HFR.out.trans hfr2).trans (by repeat (first | with_reducible exact Fr.refl _ _ | with_reducible assumption | with_reducible refine Fr.drewN ?_ _ | with_reducible refine Fr.drew ?_ | with_reducible refine Fr.alloc ?_ _ | ((with_reducible refine Fr.setCell ?_ ?_ _) <;> first | (apply Or.inl; simp; done) | (apply Or.inr; simp; done) | (apply Or.inr; simp; omega) | skip) | (refine Fr.then0 ?_ (by with_reducible assumption)) | (refine Fr.trans ?_ (by with_reducible assumption))))⟩; rw [seg_false HSTEP.out HNN.out 0 (by omega) (show ptB 3 0 d.x0 d.y0 = false from ptB_false (by first | omega | (have hb : (d.y0 != 0) = true := (by assumption); have hb2 : d.y0 ≠ 0 := (by simpa using hb); omega) | (have hb : (d.y0 != 0) = false := (by assumption); have hb2 : d.y0 = 0 := (by simpa using hb); omega)))]; rfl)
          · rw [show ((1 : Nat) : Int) = 1 from rfl]
            clear hrel0 hlk hN hdk hd hdk1 hB hB2 hf1 hfr hf hk HEL HR HLN
            go_wp2
            all_goals
              first
                | (refine ⟨⟨2, by omega, rfl, hfr2.trans (by repeat (first | with_reducible exact Fr.refl _ _ | with_reducible assumption | with_reducible refine Fr.drewN ?_ _ | with_reducible refine Fr.drew ?_ | with_reducible refine Fr.alloc ?_ _ | ((with_reducible refine Fr.setCell ?_ ?_ _) <;> first | (apply Or.inl; simp; done) | (apply Or.inr; simp; done) | (apply Or.inr; simp; omega) | skip) | (refine Fr.then0 ?_ (by with_reducible assumption)) | (refine Fr.trans ?_ (by with_reducible assumption)))), hide (upto_succ hpt.out ?_)⟩, by simp [intOf]⟩; exact (show ptB 3 1 d.x1 d.y1 = true from ptB_true (by first | omega | (have hb : (d.y1 != 0) = true := (by assumption); have hb2 : d.y1 ≠ 0 := (by simpa using hb); omega) | (have hb : (d.y1 != 0) = false := (by assumption); have hb2 : d.y1 = 0 := (by simpa using hb); omega)) (by first | omega | (have hb : (d.y1 != 0) = true := (by assumption); have hb2 : d.y1 ≠ 0 := (by simpa using hb); omega) | (have hb : (d.y1 != 0) = false := (by assumption); have hb2 : d.y1 = 0 := (by simpa using hb); omega))))
                | (go_ret; refine ⟨?_, (HFR.out.trans hfr2).trans (by repeat (first | with_reducible exact Fr.refl _ _ | with_reducible assumption | with_reducible refine Fr.drewN ?_ _ | with_reducible refine Fr.drew ?_ | with_reducible refine Fr.alloc ?_ _ | ((with_reducible refine Fr.setCell ?_ ?_ _) <;> first | (apply Or.inl; simp; done) | (apply Or.inr; simp; done) | (apply Or.inr; simp; omega) | skip) | (refine Fr.then0 ?_ (by with_reducible assumption)) | (refine Fr.trans ?_ (by with_reducible assumption))))⟩; rw [seg_false HSTEP.out HNN.out 1 (by omega) (show ptB 3 1 d.x1 d.y1 = false from ptB_false (by first | omega | (have hb : (d.y1 != 0) = true := (by assumption); have hb2 : d.y1 ≠ 0 := (by simpa using hb); omega) | (have hb : (d.y1 != 0) = false := (by assumption); have hb2 : d.y1 = 0 := (by simpa using hb); omega)))]; rfl)
          · rw [show ((2 : Nat) : Int) = 2 from rfl]
            clear hrel0 hlk hN hdk hd hdk1 hB hB2 hf1 hfr hf hk HEL HR HLN
            go_wp2
            all_goals
              first
                | (refine ⟨⟨3, by omega, rfl, hfr2.trans (by repeat (first | with_reducible exact Fr.refl _ _ | with_reducible assumption | with_reducible refine Fr.drewN ?_ _ | with_reducible refine Fr.drew ?_ | with_reducible refine Fr.alloc ?_ _ | ((with_reducible refine Fr.setCell ?_ ?_ _) <;> first | (apply Or.inl; simp; done) | (apply Or.inr; simp; done) | (apply Or.inr; simp; omega) | skip) | (refine Fr.then0 ?_ (by with_reducible assumption)) | (refine Fr.trans ?_ (by with_reducible assumption)))), hide (upto_succ hpt.out ?_)⟩, by simp [intOf]⟩; exact (show ptB 3 2 d.x2 d.y2 = true from ptB_true (by first | omega | (have hb : (d.y2 != 0) = true := (by assumption); have hb2 : d.y2 ≠ 0 := (by simpa using hb); omega) | (have hb : (d.y2 != 0) = false := (by assumption); have hb2 : d.y2 = 0 := (by simpa using hb); omega)) (by first | omega | (have hb : (d.y2 != 0) = true := (by assumption); have hb2 : d.y2 ≠ 0 := (by simpa using hb); omega) | (have hb : (d.y2 != 0) = false := (by assumption); have hb2 : d.y2 = 0 := (by simpa using hb); omega))))
                | (go_ret; refine ⟨?_, (HFR.out.trans hfr2).trans (by repeat (first | with_reducible exact Fr.refl _ _ | with_reducible assumption | with_reducible refine Fr.drewN ?_ _ | with_reducible refine Fr.drew ?_ | with_reducible refine Fr.alloc ?_ _ | ((with_reducible refine Fr.setCell ?_ ?_ _) <;> first | (apply Or.inl; simp; done) | (apply Or.inr; simp; done) | (apply Or.inr; simp; omega) | skip) | (refine Fr.then0 ?_ (by with_reducible assumption)) | (refine Fr.trans ?_ (by with_reducible assumption))))⟩; rw [seg_false HSTEP.out HNN.out 2 (by omega) (show ptB 3 2 d.x2 d.y2 = false from ptB_false (by first | omega | (have hb : (d.y2 != 0) = true := (by assumption); have hb2 : d.y2 ≠ 0 := (by simpa using hb); omega) | (have hb : (d.y2 != 0) = false := (by assumption); have hb2 : d.y2 = 0 := (by simpa using hb); omega)))]; rfl)
          · rw [show ((3 : Nat) : Int) = 3 from rfl]
            by_cases h0 : 0 < k
            · have hd0 : decide ((0 : Int) < (k : Int)) = true := by simp; omega
              have hk1 : (k : Int) - 1 = ((k - 1 : Nat) : Int) := by omega
              obtain ⟨ad', d', hadd, _, hlk', b0, _⟩ := HEL.out _ (hf.trans hfr) (k - 1) (by omega)
              obtain rfl : ad = ad' := by injection hadd
              have hlast : lastK l k = d'.k := by unfold lastK; rw [if_neg (by omega), hlk']; rfl
              have b1 := (hf1.trans hfr2).cell b0 (by simp)
              have HL := hide hlast
              clear hlast hlk' b0
              go_wp2
              all_goals
                first
                  | (refine ⟨⟨k + 1, by omega, by go_num, (HFR.out.trans hfr2).trans (by repeat (first | with_reducible exact Fr.refl _ _ | with_reducible assumption | with_reducible refine Fr.drewN ?_ _ | with_reducible refine Fr.drew ?_ | with_reducible refine Fr.alloc ?_ _ | ((with_reducible refine Fr.setCell ?_ ?_ _) <;> first | (apply Or.inl; simp; done) | (apply Or.inr; simp; done) | (apply Or.inr; simp; omega) | skip) | (refine Fr.then0 ?_ (by with_reducible assumption)) | (refine Fr.trans ?_ (by with_reducible assumption)))), hide (seg_next HSTEP.out (by omega) HNN.out hpt.out ?_)⟩, by simp [intOf]; omega⟩; exact last_ok HL.out (by first | omega | (simp_all; done) | (simp only [bne_iff_ne, ne_eq, bne_eq_false_iff_eq, beq_iff_eq, beq_eq_false_iff_ne, decide_eq_true_eq, decide_eq_false_iff_not] at *; omega)))
                  | (go_ret; refine ⟨?_, (HFR.out.trans hfr2).trans (by repeat (first | with_reducible exact Fr.refl _ _ | with_reducible assumption | with_reducible refine Fr.drewN ?_ _ | with_reducible refine Fr.drew ?_ | with_reducible refine Fr.alloc ?_ _ | ((with_reducible refine Fr.setCell ?_ ?_ _) <;> first | (apply Or.inl; simp; done) | (apply Or.inr; simp; done) | (apply Or.inr; simp; omega) | skip) | (refine Fr.then0 ?_ (by with_reducible assumption)) | (refine Fr.trans ?_ (by with_reducible assumption))))⟩; rw [seg_false2' HSTEP.out HL.out (by first | omega | (simp_all; done) | (simp only [bne_iff_ne, ne_eq, bne_eq_false_iff_eq, beq_iff_eq, beq_eq_false_iff_ne, decide_eq_true_eq, decide_eq_false_iff_not] at *; omega))]; rfl)
            · have hd0 : decide ((0 : Int) < (k : Int)) = false := by simp; omega
              have HL : Hid (lastK l k = 0) := hide (by unfold lastK; rw [if_pos (by omega)])
              go_wp2
              all_goals
                first
                  | (refine ⟨⟨k + 1, by omega, by go_num, (HFR.out.trans hfr2).trans (by repeat (first | with_reducible exact Fr.refl _ _ | with_reducible assumption | with_reducible refine Fr.drewN ?_ _ | with_reducible refine Fr.drew ?_ | with_reducible refine Fr.alloc ?_ _ | ((with_reducible refine Fr.setCell ?_ ?_ _) <;> first | (apply Or.inl; simp; done) | (apply Or.inr; simp; done) | (apply Or.inr; simp; omega) | skip) | (refine Fr.then0 ?_ (by with_reducible assumption)) | (refine Fr.trans ?_ (by with_reducible assumption)))), hide (seg_next HSTEP.out (by omega) HNN.out hpt.out ?_)⟩, by simp [intOf]; omega⟩; exact last_ok HL.out (by first | omega | (simp_all; done) | (simp only [bne_iff_ne, ne_eq, bne_eq_false_iff_eq, beq_iff_eq, beq_eq_false_iff_ne, decide_eq_true_eq, decide_eq_false_iff_not] at *; omega)))
                  | (go_ret; refine ⟨?_, (HFR.out.trans hfr2).trans (by repeat (first | with_reducible exact Fr.refl _ _ | with_reducible assumption | with_reducible refine Fr.drewN ?_ _ | with_reducible refine Fr.drew ?_ | with_reducible refine Fr.alloc ?_ _ | ((with_reducible refine Fr.setCell ?_ ?_ _) <;> first | (apply Or.inl; simp; done) | (apply Or.inr; simp; done) | (apply Or.inr; simp; omega) | skip) | (refine Fr.then0 ?_ (by with_reducible assumption)) | (refine Fr.trans ?_ (by with_reducible assumption))))⟩; rw [seg_false2' HSTEP.out HL.out (by first | omega | (simp_all; done) | (simp only [bne_iff_ne, ne_eq, bne_eq_false_iff_eq, beq_iff_eq, beq_eq_false_iff_ne, decide_eq_true_eq, decide_eq_false_iff_not] at *; omega))]; rfl)
      · go_wp2
        obtain ⟨g, hg⟩ : ∃ g, g = wr.heap.size := ⟨_, rfl⟩
        obtain ⟨W1, hW1⟩ : ∃ W1, W1 = wr.alloc (.cells #[.int .i64 d.k, .int .i64 d.x0, .int .i64 d.y0, .int .i64 d.x1, .int .i64 d.y1, .int .i64 d.x2, .int .i64 d.y2] 91) := ⟨_, rfl⟩
        have hB : Blk W1 g 91 #[.int .i64 d.k, .int .i64 d.x0, .int .i64 d.y0, .int .i64 d.x1, .int .i64 d.y1, .int .i64 d.x2, .int .i64 d.y2] := by rw [hW1, hg]; exact Blk.new _ _ _
        have hf1 : Fr [] wr W1 := by rw [hW1]; exact (by repeat (first | with_reducible exact Fr.refl _ _ | with_reducible assumption | with_reducible refine Fr.drewN ?_ _ | with_reducible refine Fr.drew ?_ | with_reducible refine Fr.alloc ?_ _ | ((with_reducible refine Fr.setCell ?_ ?_ _) <;> first | (apply Or.inl; simp; done) | (apply Or.inr; simp; done) | (apply Or.inr; simp; omega) | skip) | (refine Fr.then0 ?_ (by with_reducible assumption)) | (refine Fr.trans ?_ (by with_reducible assumption))))
        rw [← hW1, ← hg]
        clear hW1 hg a0 a1 a2 a3 a4 a5 a6
        generalize Value.agg #[.int .i64 d.k, .int .i64 d.x0, .int .i64 d.y0, .int .i64 d.x1, .int .i64 d.y1, .int .i64 d.x2, .int .i64 d.y2] = ag
        have hdk1 : d.k = 4 := by simpa using k4
        have HNN : Hid (ptsN d.k = 0) := hide (by rw [hdk1]; rfl)
        have HFR := hide (hfr.trans hf1)
        go_loopw [6] (fun j w2 => ∃ m : Nat, m ≤ 3 ∧ j = .int .i64 m ∧ Fr [] W1 w2 ∧ Hid (∀ q, q < m → ptB 0 q (d.px q) (d.py q) = true)) (fun j _ => 3 - (intOf j).toNat)
        case atStart => exact ⟨0, by omega, rfl, Fr.refl _ _, hide (fun q hq => absurd hq (by omega))⟩
        case round =>
          rename_i wr0 hrel0
          obtain ⟨m, hm, rfl, hfr2, hpt⟩ := hrel
          have hB2 := hB.keep hfr2 (by simp)
          obtain ⟨c0, c1, c2, c3, c4, c5, c6, cz⟩ := hB2.c7
          have hgl := hB2.lt
          have hgn := Nat.ne_of_lt hgl
          rcases (by omega : m = 0 ∨ m = 1 ∨ m = 2 ∨ m = 3) with rfl | rfl | rfl | rfl
          · rw [show ((0 : Nat) : Int) = 0 from rfl]
            clear hrel0 hlk hN hdk hd hdk1 hB hB2 hf1 hfr hf hk HEL HR HLN
            go_wp2
            all_goals
              first
                | (refine ⟨⟨1, by omega, rfl, hfr2.trans (by repeat (first | with_reducible exact Fr.refl _ _ | with_reducible assumption | with_reducible refine Fr.drewN ?_ _ | with_reducible refine Fr.drew ?_ | with_reducible refine Fr.alloc ?_ _ | ((with_reducible refine Fr.setCell ?_ ?_ _) <;> first | (apply Or.inl; simp; done) | (apply Or.inr; simp; done) | (apply Or.inr; simp; omega) | skip) | (refine Fr.then0 ?_ (by with_reducible assumption)) | (refine Fr.trans ?_ (by with_reducible assumption)))), hide (upto_succ hpt.out ?_)⟩, by simp [intOf]⟩; exact (show ptB 0 0 d.x0 d.y0 = true from ptB_true (by first | omega | (have hb : (d.y0 != 0) = true := (by assumption); have hb2 : d.y0 ≠ 0 := (by simpa using hb); omega) | (have hb : (d.y0 != 0) = false := (by assumption); have hb2 : d.y0 = 0 := (by simpa using hb); omega)) (by first | omega | (have hb : (d.y0 != 0) = true := (by assumption); have hb2 : d.y0 ≠ 0 := (by simpa using hb); omega) | (have hb : (d.y0 != 0) = false := (by assumption); have hb2 : d.y0 = 0 := (by simpa using hb); omega))))
                | (go_ret; refine ⟨?_, (HFR.out.trans hfr2).trans (by repeat (first | with_reducible exact Fr.refl _ _ | with_reducible assumption | with_reducible refine Fr.drewN ?_ _ | with_reducible refine Fr.drew ?_ | with_reducible refine Fr.alloc ?_ _ | ((with_reducible refine Fr.setCell ?_ ?_ _) <;> first | (apply Or.inl; simp; done) | (apply Or.inr; simp; done) | (apply Or.inr; simp; omega) | skip) | (refine Fr.then0 ?_ (by with_reducible assumption)) | (refine Fr.trans ?_ (by with_reducible assumption))))⟩; rw [seg_false HSTEP.out HNN.out 0 (by omega) (show ptB 0 0 d.x0 d.y0 = false from ptB_false (by first | omega | (have hb : (d.y0 != 0) = true := (by assumption); have hb2 : d.y0 ≠ 0 := (by simpa using hb); omega) | (have hb : (d.y0 != 0) = false := (by assumption); have hb2 : d.y0 = 0 := (by simpa using hb); omega)))]; rfl)
          · rw [show ((1 : Nat) : Int) = 1 from rfl]
            clear hrel0 hlk hN hdk hd hdk1 hB hB2 hf1 hfr hf hk HEL HR HLN
            go_wp2
            all_goals
              first
                | (refine ⟨⟨2, by omega, rfl, hfr2.trans (by repeat (first | with_reducible exact Fr.refl _ _ | with_reducible assumption | with_reducible refine Fr.drewN ?_ _ | with_reducible refine Fr.drew ?_ | with_reducible refine Fr.alloc ?_ _ | ((with_reducible refine Fr.setCell ?_ ?_ _) <;> first | (apply Or.inl; simp; done) | (apply Or.inr; simp; done) | (apply Or.inr; simp; omega) | skip) | (refine Fr.then0 ?_ (by with_reducible assumption)) | (refine Fr.trans ?_ (by with_reducible assumption)))), hide (upto_succ hpt.out ?_)⟩, by simp [intOf]⟩; exact (show ptB 0 1 d.x1 d.y1 = true from ptB_true (by first | omega | (have hb : (d.y1 != 0) = true := (by assumption); have hb2 : d.y1 ≠ 0 := (by simpa using hb); omega) | (have hb : (d.y1 != 0) = false := (by assumption); have hb2 : d.y1 = 0 := (by simpa using hb); omega)) (by first | omega | (have hb : (d.y1 != 0) = true := (by assumption); have hb2 : d.y1 ≠ 0 := (by simpa using hb); omega) | (have hb : (d.y1 != 0) = false := (by assumption); have hb2 : d.y1 = 0 := (by simpa using hb); omega))))
                | (go_ret; refine ⟨?_, (HFR.out.trans hfr2).trans (by repeat (first | with_reducible exact Fr.refl _ _ | with_reducible assumption | with_reducible refine Fr.drewN ?_ _ | with_reducible refine Fr.drew ?_ | with_reducible refine Fr.alloc ?_ _ | ((with_reducible refine Fr.setCell ?_ ?_ _) <;> first | (apply Or.inl; simp; done) | (apply Or.inr; simp; done) | (apply Or.inr; simp; omega) | skip) | (refine Fr.then0 ?_ (by with_reducible assumption)) | (refine Fr.trans ?_ (by with_reducible assumption))))⟩; rw [seg_false HSTEP.out HNN.out 1 (by omega) (show ptB 0 1 d.x1 d.y1 = false from ptB_false (by first | omega | (have hb : (d.y1 != 0) = true := (by assumption); have hb2 : d.y1 ≠ 0 := (by simpa using hb); omega) | (have hb : (d.y1 != 0) = false := (by assumption); have hb2 : d.y1 = 0 := (by simpa using hb); omega)))]; rfl)
          · rw [show ((2 : Nat) : Int) = 2 from rfl]
            clear hrel0 hlk hN hdk hd hdk1 hB hB2 hf1 hfr hf hk HEL HR HLN
            go_wp2
            all_goals
              first
                | (refine ⟨⟨3, by omega, rfl, hfr2.trans (by repeat (first | with_reducible exact Fr.refl _ _ | with_reducible assumption | with_reducible refine Fr.drewN ?_ _ | with_reducible refine Fr.drew ?_ | with_reducible refine Fr.alloc ?_ _ | ((with_reducible refine Fr.setCell ?_ ?_ _) <;> first | (apply Or.inl; simp; done) | (apply Or.inr; simp; done) | (apply Or.inr; simp; omega) | skip) | (refine Fr.then0 ?_ (by with_reducible assumption)) | (refine Fr.trans ?_ (by with_reducible assumption)))), hide (upto_succ hpt.out ?_)⟩, by simp [intOf]⟩; exact (show ptB 0 2 d.x2 d.y2 = true from ptB_true (by first | omega | (have hb : (d.y2 != 0) = true := (by assumption); have hb2 : d.y2 ≠ 0 := (by simpa using hb); omega) | (have hb : (d.y2 != 0) = false := (by assumption); have hb2 : d.y2 = 0 := (by simpa using hb); omega)) (by first | omega | (have hb : (d.y2 != 0) = true := (by assumption); have hb2 : d.y2 ≠ 0 := (by simpa using hb); omega) | (have hb : (d.y2 != 0) = false := (by assumption); have hb2 : d.y2 = 0 := (by simpa using hb); omega))))
                | (go_ret; refine ⟨?_, (HFR.out.trans hfr2).trans (by repeat (first | with_reducible exact Fr.refl _ _ | with_reducible assumption | with_reducible refine Fr.drewN ?_ _ | with_reducible refine Fr.drew ?_ | with_reducible refine Fr.alloc ?_ _ | ((with_reducible refine Fr.setCell ?_ ?_ _) <;> first | (apply Or.inl; simp; done) | (apply Or.inr; simp; done) | (apply Or.inr; simp; omega) | skip) | (refine Fr.then0 ?_ (by with_reducible assumption)) | (refine Fr.trans ?_ (by with_reducible assumption))))⟩; rw [seg_false HSTEP.out HNN.out 2 (by omega) (show ptB 0 2 d.x2 d.y2 = false from ptB_false (by first | omega | (have hb : (d.y2 != 0) = true := (by assumption); have hb2 : d.y2 ≠ 0 := (by simpa using hb); omega) | (have hb : (d.y2 != 0) = false := (by assumption); have hb2 : d.y2 = 0 := (by simpa using hb); omega)))]; rfl)
          · rw [show ((3 : Nat) : Int) = 3 from rfl]
            by_cases h0 : 0 < k
            · have hd0 : decide ((0 : Int) < (k : Int)) = true := by simp; omega
              have hk1 : (k : Int) - 1 = ((k - 1 : Nat) : Int) := by omega
              obtain ⟨ad', d', hadd, _, hlk', b0, _⟩ := HEL.out _ (hf.trans hfr) (k - 1) (by omega)
              obtain rfl : ad = ad' := by injection hadd
              have hlast : lastK l k = d'.k := by unfold lastK; rw [if_neg (by omega), hlk']; rfl
              have b1 := (hf1.trans hfr2).cell b0 (by simp)
              have HL := hide hlast
              clear hlast hlk' b0
              go_wp2
              all_goals
                first
                  | (refine ⟨⟨k + 1, by omega, by go_num, (HFR.out.trans hfr2).trans (by repeat (first | with_reducible exact Fr.refl _ _ | with_reducible assumption | with_reducible refine Fr.drewN ?_ _ | with_reducible refine Fr.drew ?_ | with_reducible refine Fr.alloc ?_ _ | ((with_reducible refine Fr.setCell ?_ ?_ _) <;> first | (apply Or.inl; simp; done) | (apply Or.inr; simp; done) | (apply Or.inr; simp; omega) | skip) | (refine Fr.then0 ?_ (by with_reducible assumption)) | (refine Fr.trans ?_ (by with_reducible assumption)))), hide (seg_next HSTEP.out (by omega) HNN.out hpt.out ?_)⟩, by simp [intOf]; omega⟩; exact last_ok HL.out (by first | omega | (simp_all; done) | (simp only [bne_iff_ne, ne_eq, bne_eq_false_iff_eq, beq_iff_eq, beq_eq_false_iff_ne, decide_eq_true_eq, decide_eq_false_iff_not] at *; omega)))
                  | (go_ret; refine ⟨?_, (HFR.out.trans hfr2).trans (by repeat (first | with_reducible exact Fr.refl _ _ | with_reducible assumption | with_reducible refine Fr.drewN ?_ _ | with_reducible refine Fr.drew ?_ | with_reducible refine Fr.alloc ?_ _ | ((with_reducible refine Fr.setCell ?_ ?_ _) <;> first | (apply Or.inl; simp; done) | (apply Or.inr; simp; done) | (apply Or.inr; simp; omega) | skip) | (refine Fr.then0 ?_ (by with_reducible assumption)) | (refine Fr.trans ?_ (by with_reducible assumption))))⟩; rw [seg_false2' HSTEP.out HL.out (by first | omega | (simp_all; done) | (simp only [bne_iff_ne, ne_eq, bne_eq_false_iff_eq, beq_iff_eq, beq_eq_false_iff_ne, decide_eq_true_eq, decide_eq_false_iff_not] at *; omega))]; rfl)
            · have hd0 : decide ((0 : Int) < (k : Int)) = false := by simp; omega
              have HL : Hid (lastK l k = 0) := hide (by unfold lastK; rw [if_pos (by omega)])
              go_wp2
              all_goals
                first
                  | (refine ⟨⟨k + 1, by omega, by go_num, (HFR.out.trans hfr2).trans (by repeat (first | with_reducible exact Fr.refl _ _ | with_reducible assumption | with_reducible refine Fr.drewN ?_ _ | with_reducible refine Fr.drew ?_ | with_reducible refine Fr.alloc ?_ _ | ((with_reducible refine Fr.setCell ?_ ?_ _) <;> first | (apply Or.inl; simp; done) | (apply Or.inr; simp; done) | (apply Or.inr; simp; omega) | skip) | (refine Fr.then0 ?_ (by with_reducible assumption)) | (refine Fr.trans ?_ (by with_reducible assumption)))), hide (seg_next HSTEP.out (by omega) HNN.out hpt.out ?_)⟩, by simp [intOf]; omega⟩; exact last_ok HL.out (by first | omega | (simp_all; done) | (simp only [bne_iff_ne, ne_eq, bne_eq_false_iff_eq, beq_iff_eq, beq_eq_false_iff_ne, decide_eq_true_eq, decide_eq_false_iff_not] at *; omega)))
                  | (go_ret; refine ⟨?_, (HFR.out.trans hfr2).trans (by repeat (first | with_reducible exact Fr.refl _ _ | with_reducible assumption | with_reducible refine Fr.drewN ?_ _ | with_reducible refine Fr.drew ?_ | with_reducible refine Fr.alloc ?_ _ | ((with_reducible refine Fr.setCell ?_ ?_ _) <;> first | (apply Or.inl; simp; done) | (apply Or.inr; simp; done) | (apply Or.inr; simp; omega) | skip) | (refine Fr.then0 ?_ (by with_reducible assumption)) | (refine Fr.trans ?_ (by with_reducible assumption))))⟩; rw [seg_false2' HSTEP.out HL.out (by first | omega | (simp_all; done) | (simp only [bne_iff_ne, ne_eq, bne_eq_false_iff_eq, beq_iff_eq, beq_eq_false_iff_ne, decide_eq_true_eq, decide_eq_false_iff_not] at *; omega))]; rfl)
      · go_wp2
        go_ret
        exact ⟨by rw [seg_kind HSTEP.out (by simp at k1 k2 k3 k4; omega)]; rfl, hfr.trans (by repeat (first | with_reducible exact Fr.refl _ _ | with_reducible assumption | with_reducible refine Fr.drewN ?_ _ | with_reducible refine Fr.drew ?_ | with_reducible refine Fr.alloc ?_ _ | ((with_reducible refine Fr.setCell ?_ ?_ _) <;> first | (apply Or.inl; simp; done) | (apply Or.inr; simp; done) | (apply Or.inr; simp; omega) | skip) | (refine Fr.then0 ?_ (by with_reducible assumption)) | (refine Fr.trans ?_ (by with_reducible assumption))))⟩
    · have hdk : decide ((k : Int) < (n : Int)) = false := by simp; omega
      have HF : Hid (R = true) := hide (by rw [hrel.out, List.drop_of_length_le (by rw [HLN.out]; omega)]; rfl)
      go_wp2
      go_ret
      exact ⟨by rw [HF.out]; rfl, hfr⟩
end Go.Proofs.YtndfdekcdhlgoaaDoor
