/- Contracts: the reference's soundness of paths. -/
/- Contracts: the reference's SoundPath. -/
/- Contracts: the reference's soundness of pens and sides. -/
/- Contracts: the reference's soundness of items: colours, clips. -/
/- An item's cells. -/
import Derived.Test.YtndfdekcdhlgoaaDoorScBase
import Derived.Test.YtndfdekcdhlgoaaDoorScR01A
set_option linter.unusedVariables false
set_option linter.unusedSimpArgs false
namespace Go.Proofs.YtndfdekcdhlgoaaDoor
open Go.RowKit
theorem cell_off {w : World} {b : Addr} {j : Nat} {u : Value} (h : w.cell? (b.add j) = some u) (hj : 0 < j) : w.cell? ⟨b.block, b.off + j, none⟩ = some u := by
  rw [show b.add j = ⟨b.block, b.off + j, none⟩ by unfold Addr.add; rw [if_neg (by omega)]] at h
  exact h
theorem cell_at {w : World} {b : Addr} {u : Value} (h : w.cell? (b.add 0) = some u) : w.cell? b = some u := by
  rw [show b.add 0 = b by unfold Addr.add; rw [if_pos rfl]] at h
  exact h
theorem Blk.c7 {w : World} {x : Nat} {t : TypeId} {a b c d e f g : Value} (h : Blk w x t #[a, b, c, d, e, f, g]) : w.cell? ⟨x, 0, none⟩ = some a ∧ w.cell? ⟨x, 1, none⟩ = some b ∧ w.cell? ⟨x, 2, none⟩ = some c ∧ w.cell? ⟨x, 3, none⟩ = some d ∧ w.cell? ⟨x, 4, none⟩ = some e ∧ w.cell? ⟨x, 5, none⟩ = some f ∧ w.cell? ⟨x, 6, none⟩ = some g ∧ ∀ i, w.frozen? ⟨x, i, none⟩ = false :=
  ⟨h.cell 0, h.cell 1, h.cell 2, h.cell 3, h.cell 4, h.cell 5, h.cell 6, h.frozen⟩
/-- A segment of a path, in memory. -/
theorem seg_elem {w : World} {N : Nat → Prop} {A : Option Addr} {n : Nat} {l : List SegD} (hl : LR w N 7 SegC A n l) {k : Nat} (hk : k < n) :
    ∃ (ad : Addr) (d : SegD), A = some ad ∧ N ad.block ∧ l[k]? = some d ∧
      (w.cell? (ad.add (k * 7)) = some (.int .i64 d.k) ∧ w.cell? ⟨(ad.add (k * 7)).block, (ad.add (k * 7)).off + 1, none⟩ = some (.int .i64 d.x0) ∧ w.cell? ⟨(ad.add (k * 7)).block, (ad.add (k * 7)).off + 2, none⟩ = some (.int .i64 d.y0) ∧
        w.cell? ⟨(ad.add (k * 7)).block, (ad.add (k * 7)).off + 3, none⟩ = some (.int .i64 d.x1) ∧ w.cell? ⟨(ad.add (k * 7)).block, (ad.add (k * 7)).off + 4, none⟩ = some (.int .i64 d.y1) ∧
        w.cell? ⟨(ad.add (k * 7)).block, (ad.add (k * 7)).off + 5, none⟩ = some (.int .i64 d.x2) ∧ w.cell? ⟨(ad.add (k * 7)).block, (ad.add (k * 7)).off + 6, none⟩ = some (.int .i64 d.y2)) := by
  obtain ⟨ad, d, cs, rfl, hN, hd, _, rfl, hc⟩ := hl.at_ hk
  have hc' : ∀ j u, d.cells[j]? = some u → w.cell? ((ad.add (k * 7)).add j) = some u := fun j u hu => by rw [add_of_add]; exact hc j u hu
  exact ⟨ad, d, rfl, hN, hd, cell_at (hc' 0 _ rfl), cell_off (hc' 1 _ rfl) (by omega), cell_off (hc' 2 _ rfl) (by omega), cell_off (hc' 3 _ rfl) (by omega), cell_off (hc' 4 _ rfl) (by omega), cell_off (hc' 5 _ rfl) (by omega), cell_off (hc' 6 _ rfl) (by omega)⟩
set_option maxRecDepth 100000 in
theorem fitsPoint_any (x y : Int) (w : World) : Calls Tryd.prog 68 #[.agg #[.int .i64 x, .int .i64 y]] w fun e w' => e = .returned (.bool (pointB x y)) ∧ Fr [] w w' := by
  cases h1 : fitsI x <;> cases h2 : fitsI y
  all_goals
    go_enter Tryd.func68, Tryd.ntmps68
    go_wp2_with (go_at_call 52; refine (fits01_any _ _).mono ?_; simp only [h1, h2]; rintro e w' ⟨rfl, rfl⟩)
  all_goals
    go_ret
    exact ⟨by unfold pointB; rw [h1, h2]; rfl, (by repeat (first | with_reducible exact Fr.refl _ _ | with_reducible assumption | with_reducible refine Fr.drewN ?_ _ | with_reducible refine Fr.drew ?_ | with_reducible refine Fr.alloc ?_ _ | ((with_reducible refine Fr.setCell ?_ ?_ _) <;> first | (apply Or.inl; simp; done) | (apply Or.inr; simp; done) | (apply Or.inr; simp; omega) | skip) | (refine Fr.then0 ?_ (by with_reducible assumption)) | (refine Fr.trans ?_ (by with_reducible assumption))))⟩
end Go.Proofs.YtndfdekcdhlgoaaDoor
namespace Go.Proofs.YtndfdekcdhlgoaaDoor
open Go.RowKit
def SegD.px (s : SegD) : Nat → Int
  | 0 => s.x0
  | 1 => s.x1
  | _ => s.x2
def SegD.py (s : SegD) : Nat → Int
  | 0 => s.y0
  | 1 => s.y1
  | _ => s.y2
def lastK (l : List SegD) (k : Nat) : Int := if k = 0 then 0 else ((l[k-1]?).map SegD.k).getD 0
theorem lastK_succ {l : List SegD} {k : Nat} {d : SegD} (h : l[k]? = some d) : lastK l (k + 1) = d.k := by simp [lastK, h]
theorem segs_step {l : List SegD} {k : Nat} {d : SegD} (h : l[k]? = some d) : segsB (lastK l k) (l.drop k) = (segB (lastK l k) d && segsB (lastK l (k + 1)) (l.drop (k + 1))) := by
  have hk := (List.getElem?_eq_some_iff.1 h)
  obtain ⟨hk, e⟩ := hk
  rw [List.drop_eq_getElem_cons hk, e, lastK_succ h]
  rfl
def ptsN (kd : Int) : Int := if kd = 3 then 3 else if kd = 4 then 0 else 1
/-- A segment's points: as many as its kind has. -/
def ptB (n : Int) (j : Nat) (x y : Int) : Bool := pointB x y && (decide ((j : Int) < n) || zeroB x y)
theorem segB_eq (last : Int) (s : SegD) : segB last s = (decide (1 ≤ s.k ∧ s.k ≤ 4) && (ptB (ptsN s.k) 0 s.x0 s.y0 && ptB (ptsN s.k) 1 s.x1 s.y1 && ptB (ptsN s.k) 2 s.x2 s.y2) && !(decide (s.k = 1) && decide (last = 1)) && !(!decide (s.k = 1) && (decide (last = 0) || decide (last = 4)))) := by
  unfold segB ptB ptsN
  rw [Bool.eq_iff_iff]
  by_cases h1 : s.k = 1
  · simp [h1]; grind
  by_cases h2 : s.k = 2
  · simp [h2]; grind
  by_cases h3 : s.k = 3
  · simp [h3]
  by_cases h4 : s.k = 4
  · simp [h4]; grind
  have h5 : decide (1 ≤ s.k ∧ s.k ≤ 4) = false := decide_eq_false (by omega)
  simp [h1, h2, h3, h4, h5]
end Go.Proofs.YtndfdekcdhlgoaaDoor
namespace Go.Proofs.YtndfdekcdhlgoaaDoor
open Go.RowKit
set_option maxRecDepth 100000 in
theorem side12_any (n : Int) (w : World) : Calls Tryd.prog 34 #[.int .i64 n] w fun e w' => e = .returned (.bool (sideB n)) ∧ w = w' := by
  by_cases h1 : n < 65536
  · have d1 : decide ((65536 : Int) ≤ n) = false := by simp; omega
    go_enter Tryd.func34, Tryd.ntmps34
    go_wp2
    all_goals
      go_ret
      exact ⟨ret_bool (by unfold sideB; simp; omega), rfl⟩
  · have hm : n.tmod 65536 = n % 65536 := by rw [Int.tmod_eq_emod_of_nonneg (by omega)]
    go_enter Tryd.func34, Tryd.ntmps34
    go_wp2
    all_goals
      go_ret
      exact ⟨ret_bool (by unfold sideB; rw [Bool.eq_iff_iff]; simp <;> omega), rfl⟩
set_option maxRecDepth 100000 in
theorem ints_nil (A : Option Addr) (n c : Nat) (w : World) : Calls Tryd.prog 69 #[.slice A n c, .slice none 0 0] w fun e w' => e = .returned (.bool (decide (n = 0))) ∧ w = w' := by
  by_cases h : n = 0
  · subst h
    go_enter Tryd.func69, Tryd.ntmps69
    go_wp2
    go_loopw [5] (fun i wr => i = .int .i64 0 ∧ wr = w) (fun _ _ => 0)
    case atStart => exact ⟨rfl, rfl⟩
    case round =>
      obtain ⟨rfl, rfl⟩ := hrel
      go_wp2
      go_ret
      exact ⟨rfl, rfl⟩
  · have h2 : ((n : Int) == 0) = false := by simp; omega
    have h3 : ((n : Int) != 0) = true := by simp; omega
    go_enter Tryd.func69, Tryd.ntmps69
    go_wp2
    go_ret
    exact ⟨ret_bool (by simpa using h), rfl⟩
def PenV (p : PenD) (vd : Value) : Value := .agg #[.int .i64 p.width, .int .i64 p.cap, .int .i64 p.join, .int .i64 p.miter, vd, .int .i64 p.phase]
set_option maxRecDepth 100000 in
set_option maxHeartbeats 2000000 in
theorem noPen_any (p : PenD) {A : Option Addr} {n c : Nat} (hn : p.dash.length = n) (w : World) : Calls Tryd.prog 51 #[PenV p (.slice A n c), .agg #[.int .i64 0, .int .i64 0, .int .i64 0, .int .i64 0, .slice none 0 0, .int .i64 0]] w fun e w' => e = .returned (.bool (nopenB p)) ∧ Fr [] w w' := by
  unfold PenV
  have HN : Hid (nopenB p = decide (p.width = 0 ∧ p.cap = 0 ∧ p.join = 0 ∧ p.miter = 0 ∧ n = 0 ∧ p.phase = 0)) := hide (by unfold nopenB; rw [← hn, Bool.eq_iff_iff]; simp)
  generalize nopenB p = R at *
  cases p with
  | mk a b c' d dash f =>
  dsimp only at HN ⊢
  clear hn
  go_enter Tryd.func51, Tryd.ntmps51
  go_wp2_with (go_at_call 69; refine (ints_nil _ _ _ _).mono ?_; rintro e w' ⟨rfl, rfl⟩)
  all_goals
    go_ret
    exact ⟨ret_bool (by rw [HN.out, Bool.eq_iff_iff]; simp_all <;> omega), (by repeat (first | with_reducible exact Fr.refl _ _ | with_reducible assumption | with_reducible refine Fr.drewN ?_ _ | with_reducible refine Fr.drew ?_ | with_reducible refine Fr.alloc ?_ _ | ((with_reducible refine Fr.setCell ?_ ?_ _) <;> first | (apply Or.inl; simp; done) | (apply Or.inr; simp; done) | (apply Or.inr; simp; omega) | skip) | (refine Fr.then0 ?_ (by with_reducible assumption)) | (refine Fr.trans ?_ (by with_reducible assumption))))⟩
def posAny (l : List Int) : Bool := l.any fun n => decide (0 < n)
theorem dash_ok (l : List Int) : decide (l = [] ∨ ∃ n ∈ l, 0 < n) = (decide (l.length = 0) || posAny l) := by
  rw [Bool.eq_iff_iff]; simp [posAny]
set_option maxRecDepth 100000 in
set_option maxHeartbeats 4000000 in
theorem soundPen_any (p : PenD) {w0 : World} {N : Nat → Prop} {A : Option Addr} {n c : Nat} (hd : Rd w0 N 1 A n (p.dash.map (Value.int .i64))) (w : World) (hf : Fr [] w0 w) :
    Calls Tryd.prog 53 #[PenV p (.slice A n c)] w fun e w' => e = .returned (.bool (penB p)) ∧ Fr [] w w' := by
  unfold PenV
  have hn : p.dash.length = n := by have := hd.len1; simpa using this
  have HN : Hid (penB p = (decide ((0 ≤ p.width ∧ p.width ≤ 2147483647) ∧ (0 ≤ p.cap ∧ p.cap ≤ 2) ∧ (0 ≤ p.join ∧ p.join ≤ 2) ∧ (65536 ≤ p.miter ∧ p.miter ≤ 2147483647) ∧ (0 ≤ p.phase ∧ p.phase ≤ 2147483647) ∧ n ≤ 11) && p.dash.all posB && (decide (n = 0) || posAny p.dash))) := hide (by
    unfold penB; rw [dash_ok, hn]; congr 1; congr 1; unfold posB fitsI; rw [Bool.eq_iff_iff]; simp only [Bool.and_eq_true, decide_eq_true_eq]; omega)
  generalize penB p = R at *
  cases p with
  | mk a b c' d dash f =>
  dsimp only at HN hd hn ⊢
  have HEL := hide (fun (w' : World) (h : Fr [] w0 w') (k : Nat) (hk : k < n) => (hd.keep0 h).at_ hk)
  have HLN := hide hn
  clear hd hn
  by_cases hg : (0 ≤ a ∧ a ≤ 2147483647) ∧ (0 ≤ b ∧ b ≤ 2) ∧ (0 ≤ c' ∧ c' ≤ 2) ∧ (65536 ≤ d ∧ d ≤ 2147483647) ∧ (0 ≤ f ∧ f ≤ 2147483647) ∧ n ≤ 11
  · have HR : Hid (R = (dash.all posB && (decide (n = 0) || posAny dash))) := hide (by rw [HN.out, decide_eq_true hg]; rfl)
    clear HN
    obtain ⟨⟨ga1, ga2⟩, ⟨gb1, gb2⟩, ⟨gc1, gc2⟩, ⟨gd1, gd2⟩, ⟨gf1, gf2⟩, gn⟩ := hg
    have da : decide (a < 0) = false := by simp; omega
    have db : decide (b < 0) = false := by simp; omega
    have db2 : decide (2 < b) = false := by simp; omega
    have dc : decide (c' < 0) = false := by simp; omega
    have dc2 : decide (2 < c') = false := by simp; omega
    have dd : decide (d < 65536) = false := by simp; omega
    have df : decide (f < 0) = false := by simp; omega
    have dn : decide ((11 : Int) < (n : Int)) = false := by simp; omega
    have ea : fitsI a = true := by unfold fitsI; simp; omega
    have ed : fitsI d = true := by unfold fitsI; simp; omega
    have ef : fitsI f = true := by unfold fitsI; simp; omega
    go_enter Tryd.func53, Tryd.ntmps53
    go_wp2_with (go_at_call 52; refine (fits01_any _ _).mono ?_; simp only [ea, ed, ef]; rintro e w' ⟨rfl, rfl⟩)
    obtain ⟨g, hg⟩ : ∃ g, g = w.heap.size := ⟨_, rfl⟩
    obtain ⟨W1, hW1⟩ : ∃ W1, W1 = w.alloc (.cells #[.int .i64 a, .int .i64 b, .int .i64 c', .int .i64 d, .slice A n c, .int .i64 f] 39) := ⟨_, rfl⟩
    have hB : Blk W1 g 39 #[.int .i64 a, .int .i64 b, .int .i64 c', .int .i64 d, .slice A n c, .int .i64 f] := by rw [hW1, hg]; exact Blk.new _ _ _
    have hf1 : Fr [] w W1 := by rw [hW1]; exact (by repeat (first | with_reducible exact Fr.refl _ _ | with_reducible assumption | with_reducible refine Fr.drewN ?_ _ | with_reducible refine Fr.drew ?_ | with_reducible refine Fr.alloc ?_ _ | ((with_reducible refine Fr.setCell ?_ ?_ _) <;> first | (apply Or.inl; simp; done) | (apply Or.inr; simp; done) | (apply Or.inr; simp; omega) | skip) | (refine Fr.then0 ?_ (by with_reducible assumption)) | (refine Fr.trans ?_ (by with_reducible assumption))))
    rw [← hW1, ← hg]
    clear hW1 hg
    go_loopw [4, 3] (fun i s w2 => ∃ (k : Nat) (v : Bool), k ≤ n ∧ i = .int .i64 k ∧ s = .bool v ∧ Fr [] W1 w2 ∧ Hid ((dash.take k).all posB = true) ∧ Hid (v = (decide (n = 0) || posAny (dash.take k)))) (fun i _ _ => n - (intOf i).toNat)
    case atStart => exact ⟨0, _, Nat.zero_le _, rfl, rfl, Fr.refl _ _, hide (by simp), hide (by rw [Bool.eq_iff_iff]; simp [posAny])⟩
    case round =>
      obtain ⟨k, v, hk, rfl, rfl, hfr, hall, hv⟩ := hrel
      have hB2 := hB.keep hfr (by simp)
      obtain ⟨c0, c1, c2, c3, c4, c5, cz⟩ := hB2.c6
      by_cases hlt : k < n
      · have hdk : decide ((k : Int) < (n : Int)) = true := by simp; omega
        obtain ⟨ad, u, rfl, hN, hu, hc⟩ := HEL.out _ ((hf.trans hf1).trans hfr) k hlt
        have hz : ∃ z, dash[k]? = some z ∧ u = .int .i64 z := by
          rw [List.getElem?_map] at hu
          cases hh : dash[k]? with
          | none => rw [hh] at hu; cases hu
          | some z => rw [hh] at hu; exact ⟨z, rfl, by injection hu with h; exact h.symm⟩
        obtain ⟨z, hz, rfl⟩ := hz
        have HS1 := hide (show dash.take (k + 1) = dash.take k ++ [z] by rw [List.take_add_one, hz]; rfl)
        have hfin : posB z = false → R = false := fun h => by
          rw [HR.out]
          have : dash.all posB = false := by
            rw [Bool.eq_false_iff]; intro ha
            have := List.all_eq_true.1 ha z (List.mem_of_getElem? hz)
            rw [h] at this; cases this
          rw [this]; rfl
        have HFIN := hide hfin
        clear hu hz hfin
        by_cases hneg : z < 0
        · have dz : decide (z < 0) = true := by simpa using hneg
          have hp : posB z = false := by unfold posB; rw [decide_eq_false (by omega)]; rfl
          have HZ := hide (HFIN.out hp)
          clear hneg hp
          go_wp2
          go_ret
          exact ⟨by rw [HZ.out]; rfl, hf1.trans hfr⟩
        · have dz : decide (z < 0) = false := by simpa using hneg
          cases efz : fitsI z
          · have hp : posB z = false := by unfold posB; rw [efz]; simp
            have HZ := hide (HFIN.out hp)
            clear hneg hp
            go_wp2_with (go_at_call 52; refine (fits01_any _ _).mono ?_; simp only [efz]; rintro e w' ⟨rfl, rfl⟩)
            go_ret
            exact ⟨by rw [HZ.out]; rfl, hf1.trans hfr⟩
          · have hp : posB z = true := by unfold posB; rw [efz, decide_eq_true (by omega)]; rfl
            have HA : Hid ((dash.take (k + 1)).all posB = true) := hide (by rw [HS1.out, List.all_append, hall.out]; simp [hp])
            have HV : Hid ((v || decide (0 < z)) = (decide (n = 0) || posAny (dash.take (k + 1)))) := hide (by rw [HS1.out, hv.out]; simp [posAny, Bool.or_assoc])
            clear hneg hp hall hv
            cases v
            · go_wp2_with (go_at_call 52; refine (fits01_any _ _).mono ?_; simp only [efz]; rintro e w' ⟨rfl, rfl⟩)
              exact ⟨⟨k + 1, _, by omega, by go_num, rfl, hfr, HA, hide (by simpa using HV.out)⟩, by simp [intOf]; omega⟩
            · go_wp2_with (go_at_call 52; refine (fits01_any _ _).mono ?_; simp only [efz]; rintro e w' ⟨rfl, rfl⟩)
              exact ⟨⟨k + 1, _, by omega, by go_num, rfl, hfr, HA, hide (by simpa using HV.out)⟩, by simp [intOf]; omega⟩
      · have hdk : decide ((k : Int) < (n : Int)) = false := by simp; omega
        have HF : Hid (v = R) := hide (by
          have e : dash.take k = dash := List.take_of_length_le (by rw [HLN.out]; omega)
          have h1 := hall.out
          rw [e] at h1
          rw [HR.out, hv.out, e, h1]; rfl)
        go_wp2
        go_ret
        exact ⟨by rw [← HF.out]; rfl, hf1.trans hfr⟩
  · have HR : Hid (R = false) := hide (by rw [HN.out, decide_eq_false hg]; rfl)
    clear HN
    go_enter Tryd.func53, Tryd.ntmps53
    go_wp2
    all_goals first
      | (go_ret; exact ⟨by rw [HR.out]; rfl, (by repeat (first | with_reducible exact Fr.refl _ _ | with_reducible assumption | with_reducible refine Fr.drewN ?_ _ | with_reducible refine Fr.drew ?_ | with_reducible refine Fr.alloc ?_ _ | ((with_reducible refine Fr.setCell ?_ ?_ _) <;> first | (apply Or.inl; simp; done) | (apply Or.inr; simp; done) | (apply Or.inr; simp; omega) | skip) | (refine Fr.then0 ?_ (by with_reducible assumption)) | (refine Fr.trans ?_ (by with_reducible assumption))))⟩)
      | (exfalso; apply hg; simp_all; omega)
end Go.Proofs.YtndfdekcdhlgoaaDoor
namespace Go.Proofs.YtndfdekcdhlgoaaDoor
open Go.RowKit
def ColD.p (c : ColD) : Nat → Int
  | 0 => c.p0
  | 1 => c.p1
  | 2 => c.p2
  | _ => c.p3
/-- A colour's part. -/
def prtB (sp : Int) (j : Nat) (x : Int) : Bool := decide (0 ≤ x ∧ x ≤ 65536) && (decide ((j : Int) < sp) || decide (x = 0))
theorem colB_eq (c : ColD) : colB c = (decide (c.space = 1 ∨ c.space = 3 ∨ c.space = 4) && (prtB c.space 0 c.p0 && prtB c.space 1 c.p1 && prtB c.space 2 c.p2 && prtB c.space 3 c.p3)) := by
  unfold colB prtB partB
  rw [Bool.eq_iff_iff]
  simp only [Bool.and_eq_true, Bool.or_eq_true, decide_eq_true_eq]
  omega
theorem prtB_true {sp : Int} {j : Nat} {x : Int} (h : 0 ≤ x ∧ x ≤ 65536) (h2 : (j : Int) < sp ∨ x = 0) : prtB sp j x = true := by
  simp only [prtB, Bool.and_eq_true, Bool.or_eq_true, decide_eq_true_eq]; omega
theorem prtB_false {sp : Int} {j : Nat} {x : Int} (h : (x < 0 ∨ 65536 < x) ∨ (sp ≤ (j : Int) ∧ x ≠ 0)) : prtB sp j x = false := by
  rw [Bool.eq_false_iff]; simp only [prtB, ne_eq, Bool.and_eq_true, Bool.or_eq_true, decide_eq_true_eq]; omega
theorem colB_of (c : ColD) (hs : c.space = 1 ∨ c.space = 3 ∨ c.space = 4) (h : ∀ q, q < 4 → prtB c.space q (c.p q) = true) : colB c = true := by
  have p0 := h 0 (by omega)
  have p1 := h 1 (by omega)
  have p2 := h 2 (by omega)
  have p3 := h 3 (by omega)
  simp only [ColD.p] at p0 p1 p2 p3
  rw [colB_eq, p0, p1, p2, p3, decide_eq_true hs]; rfl
theorem colB_not (c : ColD) (m : Nat) (hm : m < 4) (h : prtB c.space m (c.p m) = false) : colB c = false := by
  rw [colB_eq]
  rcases (by omega : m = 0 ∨ m = 1 ∨ m = 2 ∨ m = 3) with rfl | rfl | rfl | rfl <;> simp only [ColD.p] at h <;> rw [h] <;> simp
theorem colB_space (c : ColD) (h : ¬(c.space = 1 ∨ c.space = 3 ∨ c.space = 4)) : colB c = false := by
  rw [colB_eq, decide_eq_false h]; rfl
theorem item_col {d : ItemD} (h : colB d.col = false) : itemB d = false := by unfold itemB; rw [h]; rfl
theorem item_clips {d : ItemD} (h : clipsB d.clips = false) : itemB d = false := by unfold itemB; rw [h]; simp
/-- What is asked behind the colour and the clips. -/
def restB (it : ItemD) : Bool :=
  if it.kind = 4 then it.mat.list.all fitsI && decide (0 ≤ it.font ∧ it.font ≤ 13) && decide (1 ≤ it.bytes.length ∧ it.bytes.length ≤ 65535) && decide (it.path = []) && nopenB it.pen
  else decide (1 ≤ it.kind ∧ it.kind ≤ 3) && decide (it.font = 0) && it.mat.list.all (fun n => decide (n = 0)) && decide (it.bytes = []) && decide (it.path ≠ []) && pathB it.path &&
     (if it.kind = 3 then penB it.pen else nopenB it.pen)
theorem item_rest {d : ItemD} (h1 : colB d.col = true) (h2 : clipsB d.clips = true) : itemB d = restB d := by unfold itemB; rw [h1, h2]; rfl
/-- A clip, in memory. -/
theorem clip_elem {w : World} {N : Nat → Prop} {A : Option Addr} {n : Nat} {l : List ClipD} (hl : LR w N 2 (ClipC w N) A n l) {k : Nat} (hk : k < n) :
    ∃ (ad : Addr) (d : ClipD) (Ap : Option Addr) (np cp : Nat), A = some ad ∧ l[k]? = some d ∧ np ≤ cp ∧ cp ≤ maxLen ∧ LR w N 7 SegC Ap np d.path ∧
      w.cell? (ad.add (k * 2)) = some (.slice Ap np cp) ∧ w.cell? ⟨(ad.add (k * 2)).block, (ad.add (k * 2)).off + 1, none⟩ = some (.bool d.eo) := by
  obtain ⟨ad, d, cs, rfl, hN, hd, _, ⟨Ap, np, cp, rfl, h1, h2, h3⟩, hc⟩ := hl.at_ hk
  have hc' : ∀ j u, [Value.slice Ap np cp, .bool d.eo][j]? = some u → w.cell? ((ad.add (k * 2)).add j) = some u := fun j u hu => by rw [add_of_add]; exact hc j u hu
  exact ⟨ad, d, Ap, np, cp, rfl, hd, h1, h2, h3, cell_at (hc' 0 _ rfl), cell_off (hc' 1 _ rfl) (by omega)⟩
end Go.Proofs.YtndfdekcdhlgoaaDoor
namespace Go.Proofs.YtndfdekcdhlgoaaDoor
open Go.RowKit
theorem item_elem {w : World} {N : Nat → Prop} {A : Option Addr} {n : Nat} {l : List ItemD} (hl : LR w N 22 (ItemC w N) A n l) {k : Nat} (hk : k < n) :
    ∃ (ad : Addr) (d : ItemD) (Ap : Option Addr) (np cp : Nat) (Ac : Option Addr) (nc cc : Nat) (Ad : Option Addr) (nd cd : Nat) (Ab : Option Addr) (nb cb : Nat), A = some ad ∧ l[k]? = some d ∧ ItemS w N d Ap np cp Ac nc cc Ad nd cd Ab nb cb ∧
      Hid (∀ j u, (#[.int .i64 d.kind, .slice Ap np cp, .int .i64 d.col.space, .int .i64 d.col.p0, .int .i64 d.col.p1, .int .i64 d.col.p2, .int .i64 d.col.p3, .slice Ac nc cc, .int .i64 d.pen.width, .int .i64 d.pen.cap, .int .i64 d.pen.join, .int .i64 d.pen.miter, .slice Ad nd cd, .int .i64 d.pen.phase, .int .i64 d.font, .int .i64 d.mat.m0, .int .i64 d.mat.m1, .int .i64 d.mat.m2, .int .i64 d.mat.m3, .int .i64 d.mat.m4, .int .i64 d.mat.m5, .slice Ab nb cb] : Array Value).toList[j]? = some u → w.cell? ((ad.add (k * 22)).add j) = some u) := by
  obtain ⟨ad, d, cs, rfl, hN, hd, _, ⟨Ap, np, cp, Ac, nc, cc, Ad, nd, cd, Ab, nb, cb, rfl, h2⟩, hc⟩ := hl.at_ hk
  exact ⟨ad, d, Ap, np, cp, Ac, nc, cc, Ad, nd, cd, Ab, nb, cb, rfl, hd, h2, hide fun j u hu => by rw [add_of_add]; exact hc j u hu⟩
theorem page_elem {w : World} {N : Nat → Prop} {A : Option Addr} {n : Nat} {l : List PageD} (hl : LR w N 3 (PageC w N) A n l) {k : Nat} (hk : k < n) :
    ∃ (ad : Addr) (d : PageD) (Ai : Option Addr) (ni ci : Nat), A = some ad ∧ l[k]? = some d ∧ ni ≤ ci ∧ ci ≤ maxLen ∧ LR w N 22 (ItemC w N) Ai ni d.items ∧
      w.cell? (ad.add (k * 3)) = some (.int .i64 d.w) ∧ w.cell? ⟨(ad.add (k * 3)).block, (ad.add (k * 3)).off + 1, none⟩ = some (.int .i64 d.h) ∧ w.cell? ⟨(ad.add (k * 3)).block, (ad.add (k * 3)).off + 2, none⟩ = some (.slice Ai ni ci) := by
  obtain ⟨ad, d, cs, rfl, hN, hd, _, ⟨Ai, ni, ci, rfl, h1, h2, h3⟩, hc⟩ := hl.at_ hk
  have hc' : ∀ j u, [Value.int .i64 d.w, .int .i64 d.h, .slice Ai ni ci][j]? = some u → w.cell? ((ad.add (k * 3)).add j) = some u := fun j u hu => by rw [add_of_add]; exact hc j u hu
  exact ⟨ad, d, Ai, ni, ci, rfl, hd, h1, h2, h3, cell_at (hc' 0 _ rfl), cell_off (hc' 1 _ rfl) (by omega), cell_off (hc' 2 _ rfl) (by omega)⟩
end Go.Proofs.YtndfdekcdhlgoaaDoor
