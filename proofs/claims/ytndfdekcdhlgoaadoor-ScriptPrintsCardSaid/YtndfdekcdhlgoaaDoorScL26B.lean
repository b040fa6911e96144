/- Contracts: the law's light. -/
import Derived.Test.YtndfdekcdhlgoaaDoorScR12A
set_option linter.unusedVariables false
set_option linter.unusedSimpArgs false
namespace Go.Proofs.YtndfdekcdhlgoaaDoor
open Go.RowKit
theorem sum_take_succ {α : Type} (f : α → Nat) {l : List α} {k : Nat} {d : α} (h : l[k]? = some d) : ((l.take (k + 1)).map f).sum = ((l.take k).map f).sum + f d := by
  rw [List.take_add_one, h]; simp
theorem sum_take_le {α : Type} (f : α → Nat) (l : List α) (k : Nat) : ((l.take k).map f).sum ≤ (l.map f).sum := by
  have h : l.map f = (l.take k).map f ++ (l.drop k).map f := by rw [← List.map_append, List.take_append_drop]
  rw [h, List.sum_append]; omega
/-- A count that stops at 2000. -/
def Cap (z : Int) (X : Nat) : Prop := 0 ≤ z ∧ z ≤ (X : Int) ∧ (z < 2000 → z = (X : Int))
theorem Cap.exact {z : Int} {X Y : Nat} (h : Cap z X) (hy : z < 2000 → X = Y) (hl : X ≤ Y) : Cap z Y := by
  obtain ⟨h0, h1, h2⟩ := h
  refine ⟨h0, by omega, fun hz => ?_⟩
  have := h2 hz; have := hy hz; omega
theorem Cap.more {z : Int} {X : Nat} (h : Cap z X) (hz : z < 2000) (a : Int) (b : Nat) (hab : a = b) (Y : Nat) (hY : Y = X + b) : Cap (z + a) Y := by
  obtain ⟨h0, h1, h2⟩ := h
  have := h2 hz
  refine ⟨by omega, by omega, fun _ => by omega⟩
set_option maxRecDepth 100000 in
set_option maxHeartbeats 8000000 in
theorem light26_any {w0 : World} {N : Nat → Prop} {l : List PageD} {A : Option Addr} {n c : Nat} (hl : LR w0 N 3 (PageC w0 N) A n l) (hW : pagesW l ≤ 10000000) (w : World) (hf : Fr [] w0 w) :
    Calls Tryd.prog 5 #[.slice A n c] w fun e w' => e = .returned (.bool (lightB l)) ∧ Fr [] w w' := by
  obtain ⟨R, hR⟩ : ∃ R, R = lightB l := ⟨_, rfl⟩
  obtain ⟨T, hT⟩ : ∃ T, T = pagesW l := ⟨_, rfl⟩
  have HR : Hid (R = decide (T < 2000)) := hide (by rw [hR, hT]; rfl)
  rw [← hR]
  rw [← hT] at hW
  have HT := hide (show l.length + (l.map pageW).sum = T by rw [hT]; rfl)
  have hn : n ≤ 10000000 := by have h1 := hl.len; have h2 := HT.out; omega
  have HEL := hide (fun (W : World) (h : Fr [] w0 W) (k : Nat) (hk : k < n) => page_elem (hl.keep h (by simp) (fun _ _ h0 => h0.keep h (by simp))) hk)
  have HLN := hide hl.len
  clear hR hT hl
  go_enter Tryd.func5, Tryd.ntmps5
  go_wp2
  go_loopw [4, 3] (fun i s w2 => ∃ (k : Nat) (z : Int), k ≤ n ∧ i = .int .i64 k ∧ s = .int .i64 z ∧ Fr [] w w2 ∧ Hid (Cap z (l.length + ((l.take k).map pageW).sum))) (fun i _ _ => n - (intOf i).toNat)
  case atStart => exact ⟨0, n, Nat.zero_le _, rfl, rfl, Fr.refl _ _, hide ⟨by omega, by simp [HLN.out], fun _ => by simp [HLN.out]⟩⟩
  case round =>
    obtain ⟨k, z, hk, rfl, rfl, hfr, hcap⟩ := hrel
    have hX := sum_take_le pageW l k
    have hT1 := HT.out
    obtain ⟨hz0, hz1, hz2⟩ := hcap.out
    have hz3 : z ≤ 10000000 := by omega
    have HX := hide hX
    clear hX hz1 hz2 hT1
    by_cases hlt : k < n
    · have hdk : decide ((k : Int) < (n : Int)) = true := by simp; omega
      by_cases hz : z < 2000
      · have hdz : decide (z < 2000) = true := by simpa using hz
        obtain ⟨ad, p, Ai, ni, ci, rfl, hlk, hi1, hi2, hi3, a0, a1, a2⟩ := HEL.out wr (hf.trans hfr) k hlt
        have h1 := sum_take_succ pageW hlk
        have h2 := sum_take_le pageW l (k + 1)
        have h3 := HT.out
        have h4 : pageW p = 5 * ni + (p.items.map itemW).sum := by unfold pageW; rw [hi3.len]
        obtain ⟨X, hXd⟩ : ∃ X, X = l.length + ((l.take k).map pageW).sum := ⟨_, rfl⟩
        obtain ⟨Y, hYd⟩ : ∃ Y, Y = l.length + ((l.take (k + 1)).map pageW).sum := ⟨_, rfl⟩
        have hcap0 := hcap.out
        rw [← hXd] at hcap0
        have HY : Hid (Y = X + 5 * ni + (p.items.map itemW).sum) := hide (by omega)
        have hYT : Y ≤ T := by omega
        have hni : ni ≤ 2000000 := by omega
        have HYD := hide hYd
        have HCAP := hide hcap0
        have HEI := hide (fun (W : World) (h : Fr [] wr W) (m : Nat) (hm : m < ni) => item_elem (hi3.keep h (by simp) (fun _ _ h0 => h0.keep h (by simp))) hm)
        have HLI := hide hi3.len
        have hfw := hf.trans hfr
        clear h1 h2 h3 h4 hXd hYd hcap0 hlk hi3 hcap HX a0 a1
        go_wp2
        obtain ⟨wo, rfl⟩ : ∃ wo : World, wo = wr := ⟨_, rfl⟩
        go_loopw [5, 3] (fun i s w2 => ∃ (m : Nat) (z : Int), m ≤ ni ∧ i = .int .i64 m ∧ s = .int .i64 z ∧ Fr [] wo w2 ∧ Hid (Cap z (X + 5 * ni + ((p.items.take m).map itemW).sum))) (fun i _ _ => ni - (intOf i).toNat)
        case atStart => exact ⟨0, _, Nat.zero_le _, rfl, rfl, Fr.refl _ _, hide (HCAP.out.more hz _ (5 * ni) (by omega) _ (by simp))⟩
        case round =>
          obtain ⟨m, z, hm, rfl, rfl, hfr2, hcap⟩ := hrel
          have a2 := hfr2.cell a2 (by simp)
          have hX := sum_take_le itemW p.items m
          obtain ⟨hz0, hz1, hz2⟩ := hcap.out
          have hY1 := HY.out
          have hz3 : z ≤ 10000000 := by omega
          have hfr3 := hfr.trans hfr2
          by_cases hlt2 : m < ni
          · have hdm : decide ((m : Int) < (ni : Int)) = true := by simp; omega
            by_cases hzz : z < 2000
            · have hdz2 : decide (z < 2000) = true := by simpa using hzz
              obtain ⟨ad2, d, Ap, np, cp, Ac, nc, cc, Ad, nd, cd, Ab, nb, cb, rfl, hlk2, hit, HCE⟩ := HEI.out wr hfr2 m hlt2
              have h1 := sum_take_succ itemW hlk2
              have h2 := sum_take_le itemW p.items (m + 1)
              have h4 : itemW d = np + nb + nd + 5 * nc + (d.clips.map clipW).sum := by unfold itemW; rw [hit.path.len, hit.bytes.len, hit.clips.len, show d.pen.dash.length = nd by have := hit.dash.len1; simpa using this]
              obtain ⟨X1, hXd1⟩ : ∃ X1, X1 = X + 5 * ni + ((p.items.take m).map itemW).sum := ⟨_, rfl⟩
              obtain ⟨Y1, hYd1⟩ : ∃ Y1, Y1 = X + 5 * ni + ((p.items.take (m + 1)).map itemW).sum := ⟨_, rfl⟩
              have hcap0 := hcap.out
              rw [← hXd1] at hcap0
              have HY2 : Hid (Y1 = X1 + (np + nb + nd + 5 * nc) + (d.clips.map clipW).sum) := hide (by omega)
              have hb1 : np ≤ 10000000 := by omega
              have hb2 : nb ≤ 10000000 := by omega
              have hb3 : nd ≤ 10000000 := by omega
              have hb4 : nc ≤ 2000000 := by omega
              have hYT1 : Y1 ≤ T := by omega
              have HYD1 := hide hYd1
              have HCAP1 := hide hcap0
              have HIT := hide hit
              clear h1 h2 h4 hXd1 hYd1 hcap0 hlk2 hit hcap hX hY1 hz1 hz2
              go_wp2_with (first | (refine wpList_load_cells rfl 43 _ rfl _ rfl _ _ HCE.out Tryd.underlying43 rfl (by kernel_rfl) ?_) | (refine wpList_store_new rfl 43 _ _ _ rfl _ _ rfl rfl (by kernel_rfl) (by kernel_rfl) (by kernel_rfl) ?_))
              obtain ⟨g, hg⟩ : ∃ g, g = wr.heap.size := ⟨_, rfl⟩
              obtain ⟨W1, hW1⟩ : ∃ W1, W1 = wr.alloc (.cells #[.int .i64 d.kind, .slice Ap np cp, .int .i64 d.col.space, .int .i64 d.col.p0, .int .i64 d.col.p1, .int .i64 d.col.p2, .int .i64 d.col.p3, .slice Ac nc cc, .int .i64 d.pen.width, .int .i64 d.pen.cap, .int .i64 d.pen.join, .int .i64 d.pen.miter, .slice Ad nd cd, .int .i64 d.pen.phase, .int .i64 d.font, .int .i64 d.mat.m0, .int .i64 d.mat.m1, .int .i64 d.mat.m2, .int .i64 d.mat.m3, .int .i64 d.mat.m4, .int .i64 d.mat.m5, .slice Ab nb cb] 43) := ⟨_, rfl⟩
              have hB : Blk W1 g 43 #[.int .i64 d.kind, .slice Ap np cp, .int .i64 d.col.space, .int .i64 d.col.p0, .int .i64 d.col.p1, .int .i64 d.col.p2, .int .i64 d.col.p3, .slice Ac nc cc, .int .i64 d.pen.width, .int .i64 d.pen.cap, .int .i64 d.pen.join, .int .i64 d.pen.miter, .slice Ad nd cd, .int .i64 d.pen.phase, .int .i64 d.font, .int .i64 d.mat.m0, .int .i64 d.mat.m1, .int .i64 d.mat.m2, .int .i64 d.mat.m3, .int .i64 d.mat.m4, .int .i64 d.mat.m5, .slice Ab nb cb] := by rw [hW1, hg]; exact Blk.new _ _ _
              have hf1 : Fr [] wr W1 := by rw [hW1]; exact (by repeat (first | with_reducible exact Fr.refl _ _ | with_reducible assumption | with_reducible refine Fr.drewN ?_ _ | with_reducible refine Fr.drew ?_ | with_reducible refine Fr.alloc ?_ _ | ((with_reducible refine Fr.setCell ?_ ?_ _) <;> first | (apply Or.inl; simp; done) | (apply Or.inr; simp; done) | (apply Or.inr; simp; omega) | skip) | (refine Fr.then0 ?_ (by with_reducible assumption)) | (refine Fr.trans ?_ (by with_reducible assumption))))
              rw [← hW1, ← hg]
              clear hW1 hg HCE
              generalize Value.agg #[.int .i64 d.kind, .slice Ap np cp, .int .i64 d.col.space, .int .i64 d.col.p0, .int .i64 d.col.p1, .int .i64 d.col.p2, .int .i64 d.col.p3, .slice Ac nc cc, .int .i64 d.pen.width, .int .i64 d.pen.cap, .int .i64 d.pen.join, .int .i64 d.pen.miter, .slice Ad nd cd, .int .i64 d.pen.phase, .int .i64 d.font, .int .i64 d.mat.m0, .int .i64 d.mat.m1, .int .i64 d.mat.m2, .int .i64 d.mat.m3, .int .i64 d.mat.m4, .int .i64 d.mat.m5, .slice Ab nb cb] = ag
              have a2' := hf1.cell a2 (by simp)
              have hfr4 := hfr2.trans hf1
              have HIT2 := hide (HIT.out.keep hf1 (by simp)).clips
              clear HIT hf1
              go_loopw [7, 3] (fun i s w2 => ∃ (q : Nat) (y : Int), q ≤ nc ∧ i = .int .i64 q ∧ s = .int .i64 y ∧ w2 = W1 ∧ Hid (Cap y (X1 + (np + nb + nd + 5 * nc) + ((d.clips.take q).map clipW).sum))) (fun i _ _ => nc - (intOf i).toNat)
              case atStart => exact ⟨0, _, Nat.zero_le _, rfl, rfl, rfl, hide (by have h := HCAP1.out.more hzz (np + nb + nd + 5 * nc) (np + nb + nd + 5 * nc) (by omega) _ rfl; simpa [Int.add_assoc] using h)⟩
              case round =>
                obtain ⟨q, y, hq, rfl, rfl, rfl, hcap⟩ := hrel
                have c7 : wr.cell? ⟨g, 7, none⟩ = some (.slice Ac nc cc) := hB.cell 7
                have hX := sum_take_le clipW d.clips q
                obtain ⟨hy0, hy1, hy2⟩ := hcap.out
                have hY2 := HY2.out
                have hy3 : y ≤ 10000000 := by omega
                have HXQ := hide hX
                have HLC := hide HIT2.out.len
                clear hX hy1 hy2 hY2
                by_cases hlt3 : q < nc
                · have hdq : decide ((q : Int) < (nc : Int)) = true := by simp; omega
                  by_cases hyy : y < 2000
                  · have hdy : decide (y < 2000) = true := by simpa using hyy
                    obtain ⟨ad3, cl, Aq, nq, cq, rfl, hcl, hq1, hq2, hq3, b0, b1⟩ := clip_elem HIT2.out hlt3
                    have h1 := sum_take_succ clipW hcl
                    have h2 := sum_take_le clipW d.clips (q + 1)
                    have h3 := HY2.out
                    have h4 : clipW cl = nq := hq3.len
                    have hb5 : nq ≤ 10000000 := by omega
                    have HN := hide (hcap.out.more hyy nq nq rfl (X1 + (np + nb + nd + 5 * nc) + ((d.clips.take (q + 1)).map clipW).sum) (by omega))
                    clear h1 h2 h3 h4 hcl hq3 hcap b1
                    go_wp2
                    exact ⟨⟨q + 1, _, by omega, by go_num, rfl, by trivial, HN⟩, by simp [intOf]; omega⟩
                  · have hdy : decide (y < 2000) = false := by simpa using hyy
                    have HN : Hid (Cap y (X + 5 * ni + ((p.items.take (m + 1)).map itemW).sum)) := hide (by rw [← HYD1.out]; exact hcap.out.exact (fun h => absurd h hyy) (by have h1 := HY2.out; have h2 := HXQ.out; omega))
                    clear hcap
                    go_wp2
                    exact ⟨⟨m + 1, _, by omega, by go_num, rfl, hfr4, HN⟩, by simp [intOf]; omega⟩
                · have hdq : decide ((q : Int) < (nc : Int)) = false := by simp; omega
                  have HN : Hid (Cap y (X + 5 * ni + ((p.items.take (m + 1)).map itemW).sum)) := hide (by
                    rw [← HYD1.out, HY2.out]
                    have h1 := hcap.out
                    rw [List.take_of_length_le (by rw [HLC.out]; omega)] at h1
                    exact h1)
                  clear hcap
                  go_wp2
                  exact ⟨⟨m + 1, _, by omega, by go_num, rfl, hfr4, HN⟩, by simp [intOf]; omega⟩
            · have hdz2 : decide (z < 2000) = false := by simpa using hzz
              have HN : Hid (Cap z (l.length + ((l.take (k + 1)).map pageW).sum)) := hide (by rw [← HYD.out]; exact hcap.out.exact (fun h => absurd h hzz) (by omega))
              clear hcap hX hY1 hz1 hz2
              go_wp2
              exact ⟨⟨k + 1, _, by omega, by go_num, rfl, hfr3, HN⟩, by simp [intOf]; omega⟩
          · have hdm : decide ((m : Int) < (ni : Int)) = false := by simp; omega
            have HN : Hid (Cap z (l.length + ((l.take (k + 1)).map pageW).sum)) := hide (by
              rw [← HYD.out, HY.out]
              have h1 := hcap.out
              rw [List.take_of_length_le (by rw [HLI.out]; omega)] at h1
              exact h1)
            clear hcap hX hY1 hz1 hz2
            go_wp2
            exact ⟨⟨k + 1, _, by omega, by go_num, rfl, hfr3, HN⟩, by simp [intOf]; omega⟩
      · have hdz : decide (z < 2000) = false := by simpa using hz
        have HX2 : Hid (R = false) := hide (by rw [HR.out]; have h1 := HX.out; have h2 := HT.out; obtain ⟨_, h3, _⟩ := hcap.out; exact decide_eq_false (by omega))
        clear hcap
        go_wp2
        go_ret
        exact ⟨by rw [HX2.out]; rfl, hfr⟩
    · have hdk : decide ((k : Int) < (n : Int)) = false := by simp; omega
      have HX2 : Hid (R = decide (z < 2000)) := hide (by
        rw [HR.out]
        obtain ⟨h1, h2, h3⟩ := hcap.out
        have h4 := HT.out
        rw [List.take_of_length_le (by rw [HLN.out]; omega)] at h2 h3
        rw [Bool.eq_iff_iff]; simp only [decide_eq_true_eq]
        constructor
        · intro h; omega
        · intro h; have := h3 h; omega)
      clear hcap
      go_wp2
      all_goals
        go_ret
        exact ⟨ret_bool (by rw [HX2.out]), hfr⟩
end Go.Proofs.YtndfdekcdhlgoaaDoor
