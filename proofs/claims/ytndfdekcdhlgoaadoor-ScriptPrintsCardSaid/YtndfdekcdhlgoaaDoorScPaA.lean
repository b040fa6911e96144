/- Contracts: package paint's and path's small functions. -/
/- Contracts: slices.ContainsFunc (PaD). -/
/- Contracts: package paint's pens. -/
/- Contracts: slices.ContainsFunc (PaB). -/
/- Contracts: slices.ContainsFunc (PaC). -/
import Derived.Test.YtndfdekcdhlgoaaDoorScR12A
import Derived.Test.YtndfdekcdhlgoaaDoorScBase
set_option linter.unusedVariables false
set_option linter.unusedSimpArgs false
namespace Go.Proofs.YtndfdekcdhlgoaaDoor
open Go.RowKit
/-- Which place a search finds. -/
def SomeI (b : Bool) (w : World) (e : Ending) (w' : World) : Prop := ∃ i : Int, e = .returned (.int .i64 i) ∧ decide (0 ≤ i) = b ∧ Fr [] w w'
theorem fixFits_any (n : Int) (w : World) : Calls Tryd.prog 60 #[.int .i64 n] w fun e w' => e = .returned (.bool (fitsI n)) ∧ w = w' := by
  go_enter Tryd.func60, Tryd.ntmps60
  go_wp2
  all_goals (go_ret; exact ⟨ret_bool (by unfold fitsI; rw [Bool.eq_iff_iff]; simp; omega), rfl⟩)
set_option maxRecDepth 100000 in
theorem pside_any (n : Int) (w : World) : Calls Tryd.prog 22 #[.int .i64 n] w fun e w' => e = .returned (.bool (sideB n)) ∧ w = w' := by
  by_cases h1 : n < 65536
  · have d1 : decide ((65536 : Int) ≤ n) = false := by simp; omega
    go_enter Tryd.func22, Tryd.ntmps22
    go_wp2
    all_goals
      go_ret
      exact ⟨ret_bool (by unfold sideB; simp; omega), rfl⟩
  · have hm : n.tmod 65536 = n % 65536 := by rw [Int.tmod_eq_emod_of_nonneg (by omega)]
    go_enter Tryd.func22, Tryd.ntmps22
    go_wp2
    all_goals
      go_ret
      exact ⟨ret_bool (by unfold sideB; rw [Bool.eq_iff_iff]; simp <;> omega), rfl⟩
set_option maxRecDepth 100000 in
set_option maxHeartbeats 2000000 in
theorem none_any (p : PenD) {A : Option Addr} {n c : Nat} (hn : p.dash.length = n) (w : World) : Calls Tryd.prog 43 #[PenV p (.slice A n c)] w fun e w' => e = .returned (.bool (nopenB p)) ∧ Fr [] w w' := by
  unfold PenV
  have HN : Hid (nopenB p = decide (p.width = 0 ∧ p.cap = 0 ∧ p.join = 0 ∧ p.miter = 0 ∧ n = 0 ∧ p.phase = 0)) := hide (by unfold nopenB; rw [← hn, Bool.eq_iff_iff]; simp)
  generalize nopenB p = R at *
  cases p with
  | mk a b c' d dash f =>
  dsimp only at HN ⊢
  clear hn
  go_enter Tryd.func43, Tryd.ntmps43
  go_wp2
  all_goals
    go_ret
    exact ⟨ret_bool (by rw [HN.out, Bool.eq_iff_iff]; simp_all <;> omega), (by repeat (first | with_reducible exact Fr.refl _ _ | with_reducible assumption | with_reducible refine Fr.drewN ?_ _ | with_reducible refine Fr.drew ?_ | with_reducible refine Fr.alloc ?_ _ | ((with_reducible refine Fr.setCell ?_ ?_ _) <;> first | (apply Or.inl; simp; done) | (apply Or.inr; simp; done) | (apply Or.inr; simp; omega) | skip) | (refine Fr.then0 ?_ (by with_reducible assumption)) | (refine Fr.trans ?_ (by with_reducible assumption))))⟩
/-- How many points a kind has. -/
def ptsP (k : Int) : Int := if k = 1 ∨ k = 2 then 1 else if k = 3 then 3 else if k = 4 then 0 else -1
theorem points_any (k : Int) (w : World) : Calls Tryd.prog 61 #[.int .i64 k] w fun e w' => e = .returned (.int .i64 (ptsP k)) ∧ w = w' := by
  go_enter Tryd.func61, Tryd.ntmps61
  go_wp2
  all_goals (go_ret; exact ⟨ret_int (by unfold ptsP; simp_all), rfl⟩)
def followB (k last : Int) : Bool := if k = 1 then decide (last ≠ 1) else decide (last ≠ 0 ∧ last ≠ 4)
theorem pfollows_any (k last : Int) (w : World) : Calls Tryd.prog 62 #[.int .i64 k, .int .i64 last] w fun e w' => e = .returned (.bool (followB k last)) ∧ w = w' := by
  go_enter Tryd.func62, Tryd.ntmps62
  go_wp2
  all_goals (go_ret; exact ⟨ret_bool (by unfold followB; rw [Bool.eq_iff_iff]; simp_all), rfl⟩)
/-- A point. -/
def PtC (cs : List Value) (p : Int × Int) : Prop := cs = [.int .i64 p.1, .int .i64 p.2]
def badPt (p : Int × Int) : Bool := !pointB p.1 p.2
def notZero (p : Int × Int) : Bool := !zeroB p.1 p.2
theorem pt_elem {w : World} {N : Nat → Prop} {A : Option Addr} {n : Nat} {l : List (Int × Int)} (hl : LR w N 2 PtC A n l) {k : Nat} (hk : k < n) :
    ∃ (ad : Addr) (d : Int × Int), A = some ad ∧ l[k]? = some d ∧ w.cell? (ad.add (k * 2)) = some (.int .i64 d.1) ∧ w.cell? ⟨(ad.add (k * 2)).block, (ad.add (k * 2)).off + 1, none⟩ = some (.int .i64 d.2) := by
  obtain ⟨ad, d, cs, rfl, hN, hd, _, rfl, hc⟩ := hl.at_ hk
  have hc' : ∀ j u, [Value.int .i64 d.1, .int .i64 d.2][j]? = some u → w.cell? ((ad.add (k * 2)).add j) = some u := fun j u hu => by rw [add_of_add]; exact hc j u hu
  exact ⟨ad, d, rfl, hd, cell_at (hc' 0 _ rfl), cell_off (hc' 1 _ rfl) (by omega)⟩
theorem int_elem {w : World} {N : Nat → Prop} {A : Option Addr} {n : Nat} {l : List Int} (hl : LR w N 1 IntC A n l) {k : Nat} (hk : k < n) :
    ∃ (ad : Addr) (d : Int), A = some ad ∧ l[k]? = some d ∧ w.cell? (ad.add k) = some (.int .i64 d) := by
  obtain ⟨ad, d, cs, rfl, hN, hd, _, rfl, hc⟩ := hl.at_ hk
  exact ⟨ad, d, rfl, hd, by have := hc 0 _ rfl; simpa using this⟩
theorem fits1_any (x y : Int) (w : World) : Calls Tryd.prog 72 #[.agg #[.int .i64 x, .int .i64 y]] w fun e w' => e = .returned (.bool (badPt (x, y))) ∧ Fr [] w w' := by
  cases h1 : fitsI x <;> cases h2 : fitsI y
  all_goals
    go_enter Tryd.func72, Tryd.ntmps72
    go_wp2_with (go_at_call 60; refine (fixFits_any _ _).mono ?_; simp only [h1, h2]; rintro e w' ⟨rfl, rfl⟩)
  all_goals
    go_ret
    exact ⟨by unfold badPt pointB; rw [h1, h2]; rfl, (by repeat (first | with_reducible exact Fr.refl _ _ | with_reducible assumption | with_reducible refine Fr.drewN ?_ _ | with_reducible refine Fr.drew ?_ | with_reducible refine Fr.alloc ?_ _ | ((with_reducible refine Fr.setCell ?_ ?_ _) <;> first | (apply Or.inl; simp; done) | (apply Or.inr; simp; done) | (apply Or.inr; simp; omega) | skip) | (refine Fr.then0 ?_ (by with_reducible assumption)) | (refine Fr.trans ?_ (by with_reducible assumption))))⟩
theorem sound1_any (x y : Int) (w : World) : Calls Tryd.prog 65 #[.agg #[.int .i64 x, .int .i64 y]] w fun e w' => e = .returned (.bool (notZero (x, y))) ∧ Fr [] w w' := by
  go_enter Tryd.func65, Tryd.ntmps65
  go_wp2
  all_goals
    go_ret
    exact ⟨ret_bool (by unfold notZero zeroB; rw [Bool.eq_iff_iff]; simp <;> omega), (by repeat (first | with_reducible exact Fr.refl _ _ | with_reducible assumption | with_reducible refine Fr.drewN ?_ _ | with_reducible refine Fr.drew ?_ | with_reducible refine Fr.alloc ?_ _ | ((with_reducible refine Fr.setCell ?_ ?_ _) <;> first | (apply Or.inl; simp; done) | (apply Or.inr; simp; done) | (apply Or.inr; simp; omega) | skip) | (refine Fr.then0 ?_ (by with_reducible assumption)) | (refine Fr.trans ?_ (by with_reducible assumption))))⟩
theorem letters1_any (n : Int) (w : World) : Calls Tryd.prog 59 #[.int .i64 n] w fun e w' => e = .returned (.bool (!fitsI n)) ∧ Fr [] w w' := by
  go_enter Tryd.func59, Tryd.ntmps59
  go_wp2_with (go_at_call 60; refine (fixFits_any _ _).mono ?_; rintro e w' ⟨rfl, rfl⟩)
  go_ret
  exact ⟨rfl, (by repeat (first | with_reducible exact Fr.refl _ _ | with_reducible assumption | with_reducible refine Fr.drewN ?_ _ | with_reducible refine Fr.drew ?_ | with_reducible refine Fr.alloc ?_ _ | ((with_reducible refine Fr.setCell ?_ ?_ _) <;> first | (apply Or.inl; simp; done) | (apply Or.inr; simp; done) | (apply Or.inr; simp; omega) | skip) | (refine Fr.then0 ?_ (by with_reducible assumption)) | (refine Fr.trans ?_ (by with_reducible assumption))))⟩
end Go.Proofs.YtndfdekcdhlgoaaDoor
namespace Go.Proofs.YtndfdekcdhlgoaaDoor
open Go.RowKit
theorem elx_int {w : World} {N : Nat → Prop} {A : Option Addr} {n : Nat} {l : List Int} (hl : LR w N 1 (IntC) A n l) : l.length = n := hl.len
set_option maxRecDepth 100000 in
set_option maxHeartbeats 2000000 in
theorem idx_int {w0 : World} {N : Nat → Prop} {A : Option Addr} {n c : Nat} {l : List Int} (hl : LR w0 N 1 (IntC) A n l) (hn : n ≤ 4611686018427387904) (w : World) (hf : Fr [] w0 w) :
    Calls Tryd.prog 71 #[.slice A n c, .func (.func 59) #[] #[]] w (SomeI (l.any (fun n : Int => !fitsI n)) w) := by
  obtain ⟨R, hR⟩ : ∃ R, R = l.any (fun n : Int => !fitsI n) := ⟨_, rfl⟩
  rw [← hR]
  have HR := hide hR
  have HEL := hide (fun (W : World) (h : Fr [] w0 W) (k : Nat) (hk : k < n) => int_elem (hl.keep h (by simp) (fun _ _ h0 => h0)) hk)
  have HLN := hide hl.len
  clear hl hR
  go_enter Tryd.func71, Tryd.ntmps71
  go_wp2
  go_loopw [8] (fun i w2 => ∃ k : Nat, k ≤ n ∧ i = .int .i64 k ∧ Fr [] w w2 ∧ Hid ((l.take k).any (fun n : Int => !fitsI n) = false)) (fun i _ => n - (intOf i).toNat)
  case atStart => exact ⟨0, Nat.zero_le _, rfl, Fr.refl _ _, hide (by simp)⟩
  case round =>
    obtain ⟨k, hk, rfl, hfr, hall⟩ := hrel
    by_cases hlt : k < n
    · have hdk : decide ((k : Int) < (n : Int)) = true := by simp; omega
      obtain ⟨ad, d, rfl, hlk, a0⟩ := HEL.out wr (hf.trans hfr) k hlt
      have HS1 := hide (show l.take (k + 1) = l.take k ++ [d] by rw [List.take_add_one, hlk]; rfl)
      have HMEM := hide (List.mem_of_getElem? hlk)
      have HC := hide (fun W (h : Fr [] wr W) => letters1_any d W)
      clear hlk
      cases hp : ((fun n : Int => !fitsI n)) d
      · have HA : Hid ((l.take (k + 1)).any (fun n : Int => !fitsI n) = false) := hide (by rw [HS1.out, List.any_append, hall.out]; simpa using hp)
        have HP : Hid (((fun n : Int => !fitsI n)) d = false) := hide hp
        clear hp
        go_wp2_with (go_at_call 59; refine (HC.out _ (by repeat (first | with_reducible exact Fr.refl _ _ | with_reducible assumption | with_reducible refine Fr.drewN ?_ _ | with_reducible refine Fr.drew ?_ | with_reducible refine Fr.alloc ?_ _ | ((with_reducible refine Fr.setCell ?_ ?_ _) <;> first | (apply Or.inl; simp; done) | (apply Or.inr; simp; done) | (apply Or.inr; simp; omega) | skip) | (refine Fr.then0 ?_ (by with_reducible assumption)) | (refine Fr.trans ?_ (by with_reducible assumption))))).mono ?_; rw [show _ = false from HP.out]; rintro e w5 ⟨rfl, hf5⟩)
        exact ⟨⟨k + 1, by omega, by go_num, hfr.trans (by repeat (first | with_reducible exact Fr.refl _ _ | with_reducible assumption | with_reducible refine Fr.drewN ?_ _ | with_reducible refine Fr.drew ?_ | with_reducible refine Fr.alloc ?_ _ | ((with_reducible refine Fr.setCell ?_ ?_ _) <;> first | (apply Or.inl; simp; done) | (apply Or.inr; simp; done) | (apply Or.inr; simp; omega) | skip) | (refine Fr.then0 ?_ (by with_reducible assumption)) | (refine Fr.trans ?_ (by with_reducible assumption)))), HA⟩, by simp [intOf]; omega⟩
      · have HX : Hid (R = true) := hide (by rw [HR.out, List.any_eq_true]; exact ⟨d, HMEM.out, hp⟩)
        have HP : Hid (((fun n : Int => !fitsI n)) d = true) := hide hp
        clear hp
        go_wp2_with (go_at_call 59; refine (HC.out _ (by repeat (first | with_reducible exact Fr.refl _ _ | with_reducible assumption | with_reducible refine Fr.drewN ?_ _ | with_reducible refine Fr.drew ?_ | with_reducible refine Fr.alloc ?_ _ | ((with_reducible refine Fr.setCell ?_ ?_ _) <;> first | (apply Or.inl; simp; done) | (apply Or.inr; simp; done) | (apply Or.inr; simp; omega) | skip) | (refine Fr.then0 ?_ (by with_reducible assumption)) | (refine Fr.trans ?_ (by with_reducible assumption))))).mono ?_; rw [show _ = true from HP.out]; rintro e w5 ⟨rfl, hf5⟩)
        go_ret
        exact ⟨k, rfl, by rw [HX.out]; simp, hfr.trans (by repeat (first | with_reducible exact Fr.refl _ _ | with_reducible assumption | with_reducible refine Fr.drewN ?_ _ | with_reducible refine Fr.drew ?_ | with_reducible refine Fr.alloc ?_ _ | ((with_reducible refine Fr.setCell ?_ ?_ _) <;> first | (apply Or.inl; simp; done) | (apply Or.inr; simp; done) | (apply Or.inr; simp; omega) | skip) | (refine Fr.then0 ?_ (by with_reducible assumption)) | (refine Fr.trans ?_ (by with_reducible assumption))))⟩
    · have hdk : decide ((k : Int) < (n : Int)) = false := by simp; omega
      have HX : Hid (R = false) := hide (by have := hall.out; rw [List.take_of_length_le (by rw [HLN.out]; omega)] at this; rw [HR.out, this])
      go_wp2
      go_ret
      exact ⟨-1, rfl, by rw [HX.out]; rfl, hfr⟩
set_option maxRecDepth 100000 in
theorem cf_int {w0 : World} {N : Nat → Prop} {A : Option Addr} {n c : Nat} {l : List Int} (hl : LR w0 N 1 (IntC) A n l) (hn : n ≤ 4611686018427387904) (w : World) (hf : Fr [] w0 w) :
    Calls Tryd.prog 58 #[.slice A n c, .func (.func 59) #[] #[]] w fun e w' => e = .returned (.bool (l.any (fun n : Int => !fitsI n))) ∧ Fr [] w w' := by
  have HI := hide (fun W (h : Fr [] w W) => idx_int (c := c) hl hn W (hf.trans h))
  generalize l.any (fun n : Int => !fitsI n) = R at *
  clear hl
  go_enter Tryd.func58, Tryd.ntmps58
  go_wp2_with (go_at_call 71; refine (HI.out _ (by repeat (first | with_reducible exact Fr.refl _ _ | with_reducible assumption | with_reducible refine Fr.drewN ?_ _ | with_reducible refine Fr.drew ?_ | with_reducible refine Fr.alloc ?_ _ | ((with_reducible refine Fr.setCell ?_ ?_ _) <;> first | (apply Or.inl; simp; done) | (apply Or.inr; simp; done) | (apply Or.inr; simp; omega) | skip) | (refine Fr.then0 ?_ (by with_reducible assumption)) | (refine Fr.trans ?_ (by with_reducible assumption))))).mono ?_; rintro e w5 ⟨i, rfl, hi, hf5⟩; have HB := hide hi; clear hi)
  go_ret
  exact ⟨ret_bool HB.out, (by repeat (first | with_reducible exact Fr.refl _ _ | with_reducible assumption | with_reducible refine Fr.drewN ?_ _ | with_reducible refine Fr.drew ?_ | with_reducible refine Fr.alloc ?_ _ | ((with_reducible refine Fr.setCell ?_ ?_ _) <;> first | (apply Or.inl; simp; done) | (apply Or.inr; simp; done) | (apply Or.inr; simp; omega) | skip) | (refine Fr.then0 ?_ (by with_reducible assumption)) | (refine Fr.trans ?_ (by with_reducible assumption))))⟩
end Go.Proofs.YtndfdekcdhlgoaaDoor
namespace Go.Proofs.YtndfdekcdhlgoaaDoor
open Go.RowKit
theorem sum_pos : ∀ l : List Int, l.all posB = true → decide (0 < l.sum) = posAny l
  | [], _ => rfl
  | a :: l, h => by
    simp only [List.all_cons, Bool.and_eq_true] at h
    have ih := sum_pos l h.2
    have h0 : ∀ l : List Int, l.all posB = true → 0 ≤ l.sum := fun l => by
      induction l with
      | nil => simp
      | cons a l ih => intro h; simp only [List.all_cons, Bool.and_eq_true] at h; have := ih h.2; have h1 := h.1; unfold posB at h1; simp only [Bool.and_eq_true, decide_eq_true_eq] at h1; simp only [List.sum_cons]; omega
    have h1 := h0 l h.2
    have h2 := h.1; unfold posB at h2; simp only [Bool.and_eq_true, decide_eq_true_eq] at h2
    have e : posAny (a :: l) = (decide (0 < a) || posAny l) := rfl
    have h3 := h2.1
    rw [e, ← ih, Bool.eq_iff_iff]; simp only [List.sum_cons, Bool.or_eq_true, decide_eq_true_eq]
    constructor
    · intro h; have h4 := of_decide_eq_true h; omega
    · intro h; exact decide_eq_true (by omega)
set_option maxRecDepth 100000 in
set_option maxHeartbeats 4000000 in
theorem ppen_any (p : PenD) {w0 : World} {N : Nat → Prop} {A : Option Addr} {n c : Nat} (hd : Rd w0 N 1 A n (p.dash.map (Value.int .i64))) (w : World) (hf : Fr [] w0 w) :
    Calls Tryd.prog 45 #[PenV p (.slice A n c)] w fun e w' => e = .returned (.bool (penB p)) ∧ Fr [] w w' := by
  unfold PenV
  have hn : p.dash.length = n := by have := hd.len1; simpa using this
  have HN : Hid (penB p = (decide ((0 ≤ p.width ∧ p.width ≤ 2147483647) ∧ (0 ≤ p.cap ∧ p.cap ≤ 2) ∧ (0 ≤ p.join ∧ p.join ≤ 2) ∧ (65536 ≤ p.miter ∧ p.miter ≤ 2147483647) ∧ (0 ≤ p.phase ∧ p.phase ≤ 2147483647) ∧ n ≤ 11) && p.dash.all posB && (decide (n = 0) || posAny p.dash))) := hide (by
    unfold penB; rw [dash_ok, hn]; congr 1; congr 1; unfold posB fitsI; rw [Bool.eq_iff_iff]; simp only [Bool.and_eq_true, decide_eq_true_eq]; omega)
  generalize penB p = R at *
  cases p with
  | mk a b c' d dash f =>
  dsimp only at HN hd hn ⊢
  have HEL := hide (fun (w' : World) (h : Fr [] w0 w') (k : Nat) (hk : k < n) => (hd.keep0 h).at_ hk)
  have HLN := hide hn
  clear hd hn
  by_cases hg : (0 ≤ a ∧ a ≤ 2147483647) ∧ (0 ≤ b ∧ b ≤ 2) ∧ (0 ≤ c' ∧ c' ≤ 2) ∧ (65536 ≤ d ∧ d ≤ 2147483647) ∧ (0 ≤ f ∧ f ≤ 2147483647) ∧ n ≤ 11
  · have HR : Hid (R = (dash.all posB && (decide (n = 0) || posAny dash))) := hide (by rw [HN.out, decide_eq_true hg]; rfl)
    clear HN
    obtain ⟨⟨ga1, ga2⟩, ⟨gb1, gb2⟩, ⟨gc1, gc2⟩, ⟨gd1, gd2⟩, ⟨gf1, gf2⟩, gn⟩ := hg
    have da : decide (a < 0) = false := by simp; omega
    have db : decide (b < 0) = false := by simp; omega
    have db2 : decide (2 < b) = false := by simp; omega
    have dc : decide (c' < 0) = false := by simp; omega
    have dc2 : decide (2 < c') = false := by simp; omega
    have dd : decide (d < 65536) = false := by simp; omega
    have df : decide (f < 0) = false := by simp; omega
    have dn : decide ((11 : Int) < (n : Int)) = false := by simp; omega
    have ea : fitsI a = true := by unfold fitsI; simp; omega
    have ed : fitsI d = true := by unfold fitsI; simp; omega
    have ef : fitsI f = true := by unfold fitsI; simp; omega
    go_enter Tryd.func45, Tryd.ntmps45
    go_wp2_with (go_at_call 60; refine (fixFits_any _ _).mono ?_; simp only [ea, ed, ef]; rintro e w' ⟨rfl, rfl⟩)
    obtain ⟨g, hg⟩ : ∃ g, g = w.heap.size := ⟨_, rfl⟩
    obtain ⟨W1, hW1⟩ : ∃ W1, W1 = w.alloc (.cells #[.int .i64 a, .int .i64 b, .int .i64 c', .int .i64 d, .slice A n c, .int .i64 f] 39) := ⟨_, rfl⟩
    have hB : Blk W1 g 39 #[.int .i64 a, .int .i64 b, .int .i64 c', .int .i64 d, .slice A n c, .int .i64 f] := by rw [hW1, hg]; exact Blk.new _ _ _
    have hf1 : Fr [] w W1 := by rw [hW1]; exact (by repeat (first | with_reducible exact Fr.refl _ _ | with_reducible assumption | with_reducible refine Fr.drewN ?_ _ | with_reducible refine Fr.drew ?_ | with_reducible refine Fr.alloc ?_ _ | ((with_reducible refine Fr.setCell ?_ ?_ _) <;> first | (apply Or.inl; simp; done) | (apply Or.inr; simp; done) | (apply Or.inr; simp; omega) | skip) | (refine Fr.then0 ?_ (by with_reducible assumption)) | (refine Fr.trans ?_ (by with_reducible assumption))))
    rw [← hW1, ← hg]
    clear hW1 hg
    go_loopw [66, 3] (fun i s w2 => ∃ (k : Nat) (v : Int), k ≤ n ∧ i = .int .i64 k ∧ s = .int .i64 v ∧ (0 ≤ v ∧ v ≤ k * 2147483647) ∧ Fr [] W1 w2 ∧ Hid ((dash.take k).all posB = true) ∧ Hid (v = (dash.take k).sum)) (fun i _ _ => n - (intOf i).toNat)
    case atStart => exact ⟨0, 0, Nat.zero_le _, rfl, rfl, by omega, Fr.refl _ _, hide (by simp), hide (by simp)⟩
    case round =>
      obtain ⟨k, v, hk, rfl, rfl, ⟨hv1, hv2⟩, hfr, hall, hv⟩ := hrel
      have hB2 := hB.keep hfr (by simp)
      obtain ⟨c0, c1, c2, c3, c4, c5, cz⟩ := hB2.c6
      by_cases hlt : k < n
      · have hdk : decide ((k : Int) < (n : Int)) = true := by simp; omega
        obtain ⟨ad, u, rfl, hN, hu, hc⟩ := HEL.out _ ((hf.trans hf1).trans hfr) k hlt
        have hz : ∃ z, dash[k]? = some z ∧ u = .int .i64 z := by
          rw [List.getElem?_map] at hu
          cases hh : dash[k]? with
          | none => rw [hh] at hu; cases hu
          | some z => rw [hh] at hu; exact ⟨z, rfl, by injection hu with h; exact h.symm⟩
        obtain ⟨z, hz, rfl⟩ := hz
        have HS1 := hide (show dash.take (k + 1) = dash.take k ++ [z] by rw [List.take_add_one, hz]; rfl)
        have hfin : posB z = false → R = false := fun h => by
          rw [HR.out]
          have : dash.all posB = false := by
            rw [Bool.eq_false_iff]; intro ha
            have := List.all_eq_true.1 ha z (List.mem_of_getElem? hz)
            rw [h] at this; cases this
          rw [this]; rfl
        have HFIN := hide hfin
        clear hu hz hfin
        by_cases hneg : z < 0
        · have dz : decide (z < 0) = true := by simpa using hneg
          have hp : posB z = false := by unfold posB; rw [decide_eq_false (by omega)]; rfl
          have HZ := hide (HFIN.out hp)
          clear hneg hp
          go_wp2
          go_ret
          exact ⟨by rw [HZ.out]; rfl, hf1.trans hfr⟩
        · have dz : decide (z < 0) = false := by simpa using hneg
          cases efz : fitsI z
          · have hp : posB z = false := by unfold posB; rw [efz]; simp
            have HZ := hide (HFIN.out hp)
            clear hneg hp
            go_wp2_with (go_at_call 60; refine (fixFits_any _ _).mono ?_; simp only [efz]; rintro e w' ⟨rfl, rfl⟩)
            go_ret
            exact ⟨by rw [HZ.out]; rfl, hf1.trans hfr⟩
          · have hp : posB z = true := by unfold posB; rw [efz, decide_eq_true (by omega)]; rfl
            have HA : Hid ((dash.take (k + 1)).all posB = true) := hide (by rw [HS1.out, List.all_append, hall.out]; simp [hp])
            have HV : Hid (v + z = (dash.take (k + 1)).sum) := hide (by rw [HS1.out, List.sum_append, hv.out]; simp)
            have hz2 : z ≤ 2147483647 := by unfold fitsI at efz; simp at efz; omega
            have hz1 : 0 ≤ z := by omega
            have hv3 : v ≤ 30000000000 := by omega
            have hv4 : v + z ≤ ((k + 1 : Nat) : Int) * 2147483647 := by omega
            clear hneg hp hall hv
            go_wp2_with (go_at_call 60; refine (fixFits_any _ _).mono ?_; simp only [efz]; rintro e w' ⟨rfl, rfl⟩)
            exact ⟨⟨k + 1, _, by omega, by go_num, rfl, by omega, hfr, HA, HV⟩, by simp [intOf]; omega⟩
      · have hdk : decide ((k : Int) < (n : Int)) = false := by simp; omega
        have HF : Hid (R = (decide (n = 0) || decide (0 < v))) := hide (by
          have e : dash.take k = dash := List.take_of_length_le (by rw [HLN.out]; omega)
          have h1 := hall.out
          rw [e] at h1
          rw [HR.out, hv.out, e, h1, sum_pos dash h1]; rfl)
        clear hall hv
        go_wp2
        all_goals
          go_ret
          exact ⟨ret_bool (by rw [HF.out, Bool.eq_iff_iff]; simp <;> omega), hf1.trans hfr⟩
  · have HR : Hid (R = false) := hide (by rw [HN.out, decide_eq_false hg]; rfl)
    clear HN
    go_enter Tryd.func45, Tryd.ntmps45
    go_wp2
    all_goals first
      | (go_ret; exact ⟨by rw [HR.out]; rfl, (by repeat (first | with_reducible exact Fr.refl _ _ | with_reducible assumption | with_reducible refine Fr.drewN ?_ _ | with_reducible refine Fr.drew ?_ | with_reducible refine Fr.alloc ?_ _ | ((with_reducible refine Fr.setCell ?_ ?_ _) <;> first | (apply Or.inl; simp; done) | (apply Or.inr; simp; done) | (apply Or.inr; simp; omega) | skip) | (refine Fr.then0 ?_ (by with_reducible assumption)) | (refine Fr.trans ?_ (by with_reducible assumption))))⟩)
      | (exfalso; apply hg; simp_all; omega)
end Go.Proofs.YtndfdekcdhlgoaaDoor
namespace Go.Proofs.YtndfdekcdhlgoaaDoor
open Go.RowKit
theorem elx_fits {w : World} {N : Nat → Prop} {A : Option Addr} {n : Nat} {l : List (Int × Int)} (hl : LR w N 2 (PtC) A n l) : l.length = n := hl.len
set_option maxRecDepth 100000 in
set_option maxHeartbeats 2000000 in
theorem idx_fits {w0 : World} {N : Nat → Prop} {A : Option Addr} {n c : Nat} {l : List (Int × Int)} (hl : LR w0 N 2 (PtC) A n l) (hn : n ≤ 4611686018427387904) (w : World) (hf : Fr [] w0 w) :
    Calls Tryd.prog 73 #[.slice A n c, .func (.func 72) #[] #[]] w (SomeI (l.any badPt) w) := by
  obtain ⟨R, hR⟩ : ∃ R, R = l.any badPt := ⟨_, rfl⟩
  rw [← hR]
  have HR := hide hR
  have HEL := hide (fun (W : World) (h : Fr [] w0 W) (k : Nat) (hk : k < n) => pt_elem (hl.keep h (by simp) (fun _ _ h0 => h0)) hk)
  have HLN := hide hl.len
  clear hl hR
  go_enter Tryd.func73, Tryd.ntmps73
  go_wp2
  go_loopw [8] (fun i w2 => ∃ k : Nat, k ≤ n ∧ i = .int .i64 k ∧ Fr [] w w2 ∧ Hid ((l.take k).any badPt = false)) (fun i _ => n - (intOf i).toNat)
  case atStart => exact ⟨0, Nat.zero_le _, rfl, Fr.refl _ _, hide (by simp)⟩
  case round =>
    obtain ⟨k, hk, rfl, hfr, hall⟩ := hrel
    by_cases hlt : k < n
    · have hdk : decide ((k : Int) < (n : Int)) = true := by simp; omega
      obtain ⟨ad, d, rfl, hlk, a0, a1⟩ := HEL.out wr (hf.trans hfr) k hlt
      have HS1 := hide (show l.take (k + 1) = l.take k ++ [d] by rw [List.take_add_one, hlk]; rfl)
      have HMEM := hide (List.mem_of_getElem? hlk)
      have HC := hide (fun W (h : Fr [] wr W) => fits1_any d.1 d.2 W)
      clear hlk
      cases hp : (badPt) d
      · have HA : Hid ((l.take (k + 1)).any badPt = false) := hide (by rw [HS1.out, List.any_append, hall.out]; simpa using hp)
        have HP : Hid ((badPt) d = false) := hide hp
        clear hp
        go_wp2_with (go_at_call 72; refine (HC.out _ (by repeat (first | with_reducible exact Fr.refl _ _ | with_reducible assumption | with_reducible refine Fr.drewN ?_ _ | with_reducible refine Fr.drew ?_ | with_reducible refine Fr.alloc ?_ _ | ((with_reducible refine Fr.setCell ?_ ?_ _) <;> first | (apply Or.inl; simp; done) | (apply Or.inr; simp; done) | (apply Or.inr; simp; omega) | skip) | (refine Fr.then0 ?_ (by with_reducible assumption)) | (refine Fr.trans ?_ (by with_reducible assumption))))).mono ?_; rw [show _ = false from HP.out]; rintro e w5 ⟨rfl, hf5⟩)
        exact ⟨⟨k + 1, by omega, by go_num, hfr.trans (by repeat (first | with_reducible exact Fr.refl _ _ | with_reducible assumption | with_reducible refine Fr.drewN ?_ _ | with_reducible refine Fr.drew ?_ | with_reducible refine Fr.alloc ?_ _ | ((with_reducible refine Fr.setCell ?_ ?_ _) <;> first | (apply Or.inl; simp; done) | (apply Or.inr; simp; done) | (apply Or.inr; simp; omega) | skip) | (refine Fr.then0 ?_ (by with_reducible assumption)) | (refine Fr.trans ?_ (by with_reducible assumption)))), HA⟩, by simp [intOf]; omega⟩
      · have HX : Hid (R = true) := hide (by rw [HR.out, List.any_eq_true]; exact ⟨d, HMEM.out, hp⟩)
        have HP : Hid ((badPt) d = true) := hide hp
        clear hp
        go_wp2_with (go_at_call 72; refine (HC.out _ (by repeat (first | with_reducible exact Fr.refl _ _ | with_reducible assumption | with_reducible refine Fr.drewN ?_ _ | with_reducible refine Fr.drew ?_ | with_reducible refine Fr.alloc ?_ _ | ((with_reducible refine Fr.setCell ?_ ?_ _) <;> first | (apply Or.inl; simp; done) | (apply Or.inr; simp; done) | (apply Or.inr; simp; omega) | skip) | (refine Fr.then0 ?_ (by with_reducible assumption)) | (refine Fr.trans ?_ (by with_reducible assumption))))).mono ?_; rw [show _ = true from HP.out]; rintro e w5 ⟨rfl, hf5⟩)
        go_ret
        exact ⟨k, rfl, by rw [HX.out]; simp, hfr.trans (by repeat (first | with_reducible exact Fr.refl _ _ | with_reducible assumption | with_reducible refine Fr.drewN ?_ _ | with_reducible refine Fr.drew ?_ | with_reducible refine Fr.alloc ?_ _ | ((with_reducible refine Fr.setCell ?_ ?_ _) <;> first | (apply Or.inl; simp; done) | (apply Or.inr; simp; done) | (apply Or.inr; simp; omega) | skip) | (refine Fr.then0 ?_ (by with_reducible assumption)) | (refine Fr.trans ?_ (by with_reducible assumption))))⟩
    · have hdk : decide ((k : Int) < (n : Int)) = false := by simp; omega
      have HX : Hid (R = false) := hide (by have := hall.out; rw [List.take_of_length_le (by rw [HLN.out]; omega)] at this; rw [HR.out, this])
      go_wp2
      go_ret
      exact ⟨-1, rfl, by rw [HX.out]; rfl, hfr⟩
set_option maxRecDepth 100000 in
theorem cf_fits {w0 : World} {N : Nat → Prop} {A : Option Addr} {n c : Nat} {l : List (Int × Int)} (hl : LR w0 N 2 (PtC) A n l) (hn : n ≤ 4611686018427387904) (w : World) (hf : Fr [] w0 w) :
    Calls Tryd.prog 64 #[.slice A n c, .func (.func 72) #[] #[]] w fun e w' => e = .returned (.bool (l.any badPt)) ∧ Fr [] w w' := by
  have HI := hide (fun W (h : Fr [] w W) => idx_fits (c := c) hl hn W (hf.trans h))
  generalize l.any badPt = R at *
  clear hl
  go_enter Tryd.func64, Tryd.ntmps64
  go_wp2_with (go_at_call 73; refine (HI.out _ (by repeat (first | with_reducible exact Fr.refl _ _ | with_reducible assumption | with_reducible refine Fr.drewN ?_ _ | with_reducible refine Fr.drew ?_ | with_reducible refine Fr.alloc ?_ _ | ((with_reducible refine Fr.setCell ?_ ?_ _) <;> first | (apply Or.inl; simp; done) | (apply Or.inr; simp; done) | (apply Or.inr; simp; omega) | skip) | (refine Fr.then0 ?_ (by with_reducible assumption)) | (refine Fr.trans ?_ (by with_reducible assumption))))).mono ?_; rintro e w5 ⟨i, rfl, hi, hf5⟩; have HB := hide hi; clear hi)
  go_ret
  exact ⟨ret_bool HB.out, (by repeat (first | with_reducible exact Fr.refl _ _ | with_reducible assumption | with_reducible refine Fr.drewN ?_ _ | with_reducible refine Fr.drew ?_ | with_reducible refine Fr.alloc ?_ _ | ((with_reducible refine Fr.setCell ?_ ?_ _) <;> first | (apply Or.inl; simp; done) | (apply Or.inr; simp; done) | (apply Or.inr; simp; omega) | skip) | (refine Fr.then0 ?_ (by with_reducible assumption)) | (refine Fr.trans ?_ (by with_reducible assumption))))⟩
end Go.Proofs.YtndfdekcdhlgoaaDoor
namespace Go.Proofs.YtndfdekcdhlgoaaDoor
open Go.RowKit
theorem elx_zero {w : World} {N : Nat → Prop} {A : Option Addr} {n : Nat} {l : List (Int × Int)} (hl : LR w N 2 (PtC) A n l) : l.length = n := hl.len
set_option maxRecDepth 100000 in
set_option maxHeartbeats 2000000 in
theorem idx_zero {w0 : World} {N : Nat → Prop} {A : Option Addr} {n c : Nat} {l : List (Int × Int)} (hl : LR w0 N 2 (PtC) A n l) (hn : n ≤ 4611686018427387904) (w : World) (hf : Fr [] w0 w) :
    Calls Tryd.prog 73 #[.slice A n c, .func (.func 65) #[] #[]] w (SomeI (l.any notZero) w) := by
  obtain ⟨R, hR⟩ : ∃ R, R = l.any notZero := ⟨_, rfl⟩
  rw [← hR]
  have HR := hide hR
  have HEL := hide (fun (W : World) (h : Fr [] w0 W) (k : Nat) (hk : k < n) => pt_elem (hl.keep h (by simp) (fun _ _ h0 => h0)) hk)
  have HLN := hide hl.len
  clear hl hR
  go_enter Tryd.func73, Tryd.ntmps73
  go_wp2
  go_loopw [8] (fun i w2 => ∃ k : Nat, k ≤ n ∧ i = .int .i64 k ∧ Fr [] w w2 ∧ Hid ((l.take k).any notZero = false)) (fun i _ => n - (intOf i).toNat)
  case atStart => exact ⟨0, Nat.zero_le _, rfl, Fr.refl _ _, hide (by simp)⟩
  case round =>
    obtain ⟨k, hk, rfl, hfr, hall⟩ := hrel
    by_cases hlt : k < n
    · have hdk : decide ((k : Int) < (n : Int)) = true := by simp; omega
      obtain ⟨ad, d, rfl, hlk, a0, a1⟩ := HEL.out wr (hf.trans hfr) k hlt
      have HS1 := hide (show l.take (k + 1) = l.take k ++ [d] by rw [List.take_add_one, hlk]; rfl)
      have HMEM := hide (List.mem_of_getElem? hlk)
      have HC := hide (fun W (h : Fr [] wr W) => sound1_any d.1 d.2 W)
      clear hlk
      cases hp : (notZero) d
      · have HA : Hid ((l.take (k + 1)).any notZero = false) := hide (by rw [HS1.out, List.any_append, hall.out]; simpa using hp)
        have HP : Hid ((notZero) d = false) := hide hp
        clear hp
        go_wp2_with (go_at_call 65; refine (HC.out _ (by repeat (first | with_reducible exact Fr.refl _ _ | with_reducible assumption | with_reducible refine Fr.drewN ?_ _ | with_reducible refine Fr.drew ?_ | with_reducible refine Fr.alloc ?_ _ | ((with_reducible refine Fr.setCell ?_ ?_ _) <;> first | (apply Or.inl; simp; done) | (apply Or.inr; simp; done) | (apply Or.inr; simp; omega) | skip) | (refine Fr.then0 ?_ (by with_reducible assumption)) | (refine Fr.trans ?_ (by with_reducible assumption))))).mono ?_; rw [show _ = false from HP.out]; rintro e w5 ⟨rfl, hf5⟩)
        exact ⟨⟨k + 1, by omega, by go_num, hfr.trans (by repeat (first | with_reducible exact Fr.refl _ _ | with_reducible assumption | with_reducible refine Fr.drewN ?_ _ | with_reducible refine Fr.drew ?_ | with_reducible refine Fr.alloc ?_ _ | ((with_reducible refine Fr.setCell ?_ ?_ _) <;> first | (apply Or.inl; simp; done) | (apply Or.inr; simp; done) | (apply Or.inr; simp; omega) | skip) | (refine Fr.then0 ?_ (by with_reducible assumption)) | (refine Fr.trans ?_ (by with_reducible assumption)))), HA⟩, by simp [intOf]; omega⟩
      · have HX : Hid (R = true) := hide (by rw [HR.out, List.any_eq_true]; exact ⟨d, HMEM.out, hp⟩)
        have HP : Hid ((notZero) d = true) := hide hp
        clear hp
        go_wp2_with (go_at_call 65; refine (HC.out _ (by repeat (first | with_reducible exact Fr.refl _ _ | with_reducible assumption | with_reducible refine Fr.drewN ?_ _ | with_reducible refine Fr.drew ?_ | with_reducible refine Fr.alloc ?_ _ | ((with_reducible refine Fr.setCell ?_ ?_ _) <;> first | (apply Or.inl; simp; done) | (apply Or.inr; simp; done) | (apply Or.inr; simp; omega) | skip) | (refine Fr.then0 ?_ (by with_reducible assumption)) | (refine Fr.trans ?_ (by with_reducible assumption))))).mono ?_; rw [show _ = true from HP.out]; rintro e w5 ⟨rfl, hf5⟩)
        go_ret
        exact ⟨k, rfl, by rw [HX.out]; simp, hfr.trans (by repeat (first | with_reducible exact Fr.refl _ _ | with_reducible assumption | with_reducible refine Fr.drewN ?_ _ | with_reducible refine Fr.drew ?_ | with_reducible refine Fr.alloc ?_ _ | ((with_reducible refine Fr.setCell ?_ ?_ _) <;> first | (apply Or.inl; simp; done) | (apply Or.inr; simp; done) | (apply Or.inr; simp; omega) | skip) | (refine Fr.then0 ?_ (by with_reducible assumption)) | (refine Fr.trans ?_ (by with_reducible assumption))))⟩
    · have hdk : decide ((k : Int) < (n : Int)) = false := by simp; omega
      have HX : Hid (R = false) := hide (by have := hall.out; rw [List.take_of_length_le (by rw [HLN.out]; omega)] at this; rw [HR.out, this])
      go_wp2
      go_ret
      exact ⟨-1, rfl, by rw [HX.out]; rfl, hfr⟩
set_option maxRecDepth 100000 in
theorem cf_zero {w0 : World} {N : Nat → Prop} {A : Option Addr} {n c : Nat} {l : List (Int × Int)} (hl : LR w0 N 2 (PtC) A n l) (hn : n ≤ 4611686018427387904) (w : World) (hf : Fr [] w0 w) :
    Calls Tryd.prog 64 #[.slice A n c, .func (.func 65) #[] #[]] w fun e w' => e = .returned (.bool (l.any notZero)) ∧ Fr [] w w' := by
  have HI := hide (fun W (h : Fr [] w W) => idx_zero (c := c) hl hn W (hf.trans h))
  generalize l.any notZero = R at *
  clear hl
  go_enter Tryd.func64, Tryd.ntmps64
  go_wp2_with (go_at_call 73; refine (HI.out _ (by repeat (first | with_reducible exact Fr.refl _ _ | with_reducible assumption | with_reducible refine Fr.drewN ?_ _ | with_reducible refine Fr.drew ?_ | with_reducible refine Fr.alloc ?_ _ | ((with_reducible refine Fr.setCell ?_ ?_ _) <;> first | (apply Or.inl; simp; done) | (apply Or.inr; simp; done) | (apply Or.inr; simp; omega) | skip) | (refine Fr.then0 ?_ (by with_reducible assumption)) | (refine Fr.trans ?_ (by with_reducible assumption))))).mono ?_; rintro e w5 ⟨i, rfl, hi, hf5⟩; have HB := hide hi; clear hi)
  go_ret
  exact ⟨ret_bool HB.out, (by repeat (first | with_reducible exact Fr.refl _ _ | with_reducible assumption | with_reducible refine Fr.drewN ?_ _ | with_reducible refine Fr.drew ?_ | with_reducible refine Fr.alloc ?_ _ | ((with_reducible refine Fr.setCell ?_ ?_ _) <;> first | (apply Or.inl; simp; done) | (apply Or.inr; simp; done) | (apply Or.inr; simp; omega) | skip) | (refine Fr.then0 ?_ (by with_reducible assumption)) | (refine Fr.trans ?_ (by with_reducible assumption))))⟩
end Go.Proofs.YtndfdekcdhlgoaaDoor
