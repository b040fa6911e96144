/- Contracts: dec.signed, plain, mantissa; strings.Trim of digits, strings.Cut at one byte. -/
import Derived.Test.YtdjhjfpeckndkaaGreatDoorBkWalkB
import Derived.Shelf.Strings.SlTrimAscii
import Derived.IntWalk
set_option linter.unusedVariables false
set_option linter.unusedSimpArgs false
namespace Go.Proofs.YtdjhjfpeckndkaaGreatDoor
open Go.RowKit

set_option maxHeartbeats 400000 in
theorem signed_any (l : List UInt8) (w : World) (hl : l.length ≤ 4611686018427387904) :
    Calls Tryz.prog 237 #[.string ⟨l.toArray⟩] w fun e w' => e = .returned (.tuple #[.bool (signP l).1, .string ⟨(signP l).2.toArray⟩]) ∧ Fr [] w w' := by
  match l, hl with
  | [], _ =>
    go_enter Tryz.func237, Tryz.ntmps237
    go_wp2
    go_ret2
    exact ⟨rfl, Fr.refl _ _⟩
  | c :: r, hl =>
    rw [List.length_cons] at hl
    have hi : ∀ w, (Instr.index 9 (.string ⟨(c :: r).toArray⟩) (.int .i64 0)).run Tryz.prog w = .ok (.int .u8 c.toNat) w := fun w => idx_str (k := 0) Tryz.underlying9 rfl w
    have hs : ∀ w, (Instr.slice 9 (.string ⟨(c :: r).toArray⟩) (some (.int .i64 1)) none none).run Tryz.prog w = .ok (.string ⟨r.toArray⟩) w := fun w => sl_lo (k := 1) Tryz.underlying9 (by simp) w
    by_cases h45 : c.toNat = 45
    · have hc : ((c.toNat : Int) == 45) = true := by simp; omega
      have e1 : signP (c :: r) = (true, r) := by simp [signP, h45]
      rw [e1]
      clear e1
      have H45 := hide h45
      clear h45
      go_enter Tryz.func237, Tryz.ntmps237
      go_wp2
      go_quiet (fail)
      go_wp2
      go_ret2
      exact ⟨rfl, (Fr.refl _ _).drewN _⟩
    · have hc : ((c.toNat : Int) == 45) = false := by simp; omega
      by_cases h43 : c.toNat = 43
      · have hc' : ((c.toNat : Int) == 43) = true := by simp; omega
        have e1 : signP (c :: r) = (false, r) := by simp [signP, h43]
        rw [e1]
        clear e1 h45
        have H43 := hide h43
        clear h43
        go_enter Tryz.func237, Tryz.ntmps237
        go_wp2
        go_quiet (fail)
        go_wp2
        go_ret2
        exact ⟨rfl, (Fr.refl _ _).drewN _⟩
      · have hc' : ((c.toNat : Int) == 43) = false := by simp; omega
        have e1 : signP (c :: r) = (false, c :: r) := by simp [signP, h43, h45]
        rw [e1]
        clear e1 h45 h43
        go_enter Tryz.func237, Tryz.ntmps237
        go_wp2
        go_ret2
        exact ⟨rfl, Fr.refl _ _⟩

/-! strings.Trim of digits: what is left is empty just of digits alone. -/
def digsL : List UInt8 := [48, 49, 50, 51, 52, 53, 54, 55, 56, 57]
theorem digs_isD : ∀ c : UInt8, digsL.contains c = isD c := all_u8 (by decide +kernel)
theorem trim_nil (l : List UInt8) (p : UInt8 → Bool) (cs : List UInt8) (h : ∀ c, cs.contains c = p c) : Lib.trimS l cs = [] ↔ l.all p = true := by
  have hf : (fun c => cs.contains c) = p := funext h
  unfold Lib.trimS Lib.trimLeftS Lib.trimRightS
  rw [show (cs.contains ·) = p from hf, dropWhile_nil]
  constructor
  · intro hx
    rw [List.all_eq_true]
    intro c hc
    rcases Bool.eq_false_or_eq_true (p c) with hp | hp
    · exact hp
    · exfalso
      have hne : l.reverse.dropWhile p ≠ [] := by
        rw [Ne, dropWhile_nil]
        intro hall
        have := hall c (by simpa using hc)
        rw [hp] at this
        cases this
      have hh := List.head_dropWhile_not p hne
      have := hx ((l.reverse.dropWhile p).head hne) (by simp)
      rw [hh] at this
      cases this
  · intro hx c hc
    rw [List.all_eq_true] at hx
    exact hx c (by
      have : c ∈ l.reverse.dropWhile p := by simpa using hc
      simpa using (List.dropWhile_sublist _).subset this)
theorem trim_yes (l : List UInt8) (w : World) (hl : l.length ≤ 4611686018427387904) (h : plainD l = true) :
    Calls Tryz.prog 167 #[.string ⟨l.toArray⟩, .string ⟨#[48, 49, 50, 51, 52, 53, 54, 55, 56, 57]⟩] w fun e w' => e = .returned (.string ⟨#[]⟩) ∧ Fr [] w w' :=
  (Any.strings_Trim_laid Tryz.lays160 (by kernel_rfl) ⟨l.toArray⟩ ⟨#[48, 49, 50, 51, 52, 53, 54, 55, 56, 57]⟩ w (by rw [size_str]; omega) (by decide) (ascii_of_all (by decide))).mono fun e w' ⟨he, hb⟩ =>
    ⟨by
      have h0 : Lib.trimS l digsL = [] := (trim_nil l isD digsL digs_isD).2 h
      rw [he, data_str]
      exact congrArg (fun x : List UInt8 => Ending.returned (.string ⟨x.toArray⟩)) h0, Fr.of_below hb⟩
theorem trim_no (l : List UInt8) (w : World) (hl : l.length ≤ 4611686018427387904) (h : plainD l = false) :
    Calls Tryz.prog 167 #[.string ⟨l.toArray⟩, .string ⟨#[48, 49, 50, 51, 52, 53, 54, 55, 56, 57]⟩] w fun e w' => (∃ c r, e = .returned (.string ⟨(c :: r : List UInt8).toArray⟩)) ∧ Fr [] w w' :=
  (Any.strings_Trim_laid Tryz.lays160 (by kernel_rfl) ⟨l.toArray⟩ ⟨#[48, 49, 50, 51, 52, 53, 54, 55, 56, 57]⟩ w (by rw [size_str]; omega) (by decide) (ascii_of_all (by decide))).mono fun e w' ⟨he, hb⟩ =>
    ⟨by
      have h0 : Lib.trimS l digsL ≠ [] := fun h0 => by
        have := (trim_nil l isD digsL digs_isD).1 h0
        rw [show l.all isD = plainD l from rfl, h] at this
        cases this
      obtain ⟨c, r, hr⟩ := List.exists_cons_of_ne_nil h0
      refine ⟨c, r, ?_⟩
      rw [he, data_str]
      exact congrArg (fun x : List UInt8 => Ending.returned (.string ⟨x.toArray⟩)) hr, Fr.of_below hb⟩

set_option maxHeartbeats 400000 in
theorem plain_any (l : List UInt8) (w : World) (hl : l.length ≤ 4611686018427387904) :
    Calls Tryz.prog 285 #[.string ⟨l.toArray⟩] w fun e w' => e = .returned (.bool (plainD l)) ∧ Fr [] w w' := by
  cases hp : plainD l
  · have H := trim_no l w hl hp
    go_enter Tryz.func285, Tryz.ntmps285
    go_wp2_with (go_at_call 167; refine (trim_no l _ hl hp).mono ?_; rintro e w1 ⟨⟨c, r, rfl⟩, hf1⟩)
    go_ret
    exact ⟨rfl, hf1⟩
  · go_enter Tryz.func285, Tryz.ntmps285
    go_wp2_with (go_at_call 167; refine (trim_yes l _ hl hp).mono ?_; rintro e w1 ⟨rfl, hf1⟩)
    go_ret
    exact ⟨rfl, hf1⟩

/-! strings.Cut at one byte. -/
def cutW (c : UInt8) (l : List UInt8) : List UInt8 := l.takeWhile (fun x => x != c)
def cutR (c : UInt8) (l : List UInt8) : List UInt8 := (l.dropWhile (fun x => x != c)).drop 1
theorem index_cut (c : UInt8) : ∀ l : List UInt8, Lib.indexByte l c = if l.contains c then ((cutW c l).length : Int) else -1
  | [] => by simp [Lib.indexByte]
  | b :: l => by
    have ih := index_cut c l
    by_cases h : b = c
    · subst h
      simp [Lib.indexByte, cutW]
    · have h1 : (b == c) = false := by simpa using h
      have h2 : (c == b) = false := by simpa using Ne.symm h
      have h3 : (b != c) = true := by simpa using h
      simp only [Lib.indexByte, h1, Bool.false_eq_true, if_false, ih, List.contains_cons, h2, Bool.false_or, cutW, List.takeWhile_cons, h3, if_true, List.length_cons]
      cases l.contains c
      · rfl
      · simp only [if_true, Int.natCast_add, Int.natCast_one]
        rw [if_neg (by intro h; simp only [beq_iff_eq] at h
                       omega)]
theorem cut_take (c : UInt8) (l : List UInt8) : l.take (cutW c l).length = cutW c l := by
  unfold cutW
  exact List.prefix_iff_eq_take.1 (List.takeWhile_prefix _) |>.symm
theorem cut_drop (c : UInt8) : ∀ l : List UInt8, l.drop ((cutW c l).length + 1) = cutR c l
  | [] => rfl
  | b :: l => by
    by_cases h : (b != c) = true
    · simp only [cutW, cutR, List.takeWhile_cons, h, if_true, List.length_cons, List.dropWhile_cons]
      rw [List.drop_succ_cons]
      exact cut_drop c l
    · have h' : (b != c) = false := by simpa using h
      simp [cutW, cutR, List.takeWhile_cons, List.dropWhile_cons, h']
theorem cut_none (c : UInt8) (l : List UInt8) (h : l.contains c = false) : cutW c l = l ∧ cutR c l = [] := by
  have hall : ∀ x, x ∈ l → (x != c) = true := by
    intro x hx
    simp only [bne_iff_ne, ne_eq]
    rintro rfl
    have : l.contains x = true := by simpa using hx
    rw [h] at this
    cases this
  have h2 : l.dropWhile (fun x => x != c) = [] := (dropWhile_nil _ l).2 hall
  refine ⟨?_, by unfold cutR; rw [h2]; rfl⟩
  have := List.takeWhile_append_dropWhile (p := fun x => x != c) (l := l)
  rw [h2, List.append_nil] at this
  exact this
theorem cutW_lt (c : UInt8) (l : List UInt8) (h : l.contains c = true) : (cutW c l).length + 1 ≤ l.length := by
  have hne : l.dropWhile (fun x => x != c) ≠ [] := by
    rw [Ne, dropWhile_nil]
    intro hall
    have := hall c (by simpa using h)
    simp at this
  have h1 := congrArg List.length (List.takeWhile_append_dropWhile (p := fun x => x != c) (l := l))
  rw [List.length_append] at h1
  have h2 := List.length_pos_iff.2 hne
  unfold cutW
  omega
theorem cutR_le (c : UInt8) (l : List UInt8) : (cutR c l).length ≤ l.length := by
  unfold cutR
  have := (List.dropWhile_sublist (p := fun x => x != c) (l := l)).length_le
  rw [List.length_drop]
  omega
theorem cutW_le (c : UInt8) (l : List UInt8) : (cutW c l).length ≤ l.length := (List.takeWhile_prefix _).length_le

set_option maxHeartbeats 400000 in
theorem lcut_any (l : List UInt8) (c : UInt8) (w : World) (hl : l.length ≤ 4611686018427387904) :
    Calls Tryz.prog 308 #[.string ⟨l.toArray⟩, .string ⟨#[c]⟩] w fun e w' => e = .returned (.tuple #[.string ⟨(cutW c l).toArray⟩, .string ⟨(cutR c l).toArray⟩, .bool (hasB c l)]) ∧ Fr [] w w' := by
  have hidx : ∀ w, Calls Tryz.prog 326 #[.string ⟨l.toArray⟩, .string ⟨#[c]⟩] w fun e w' => e = .returned (.int .i64 (if hasB c l = true then ((cutW c l).length : Int) else -1)) ∧ w = w' := fun w =>
    (Tryz.stringslite_Index_one ⟨l.toArray⟩ c w).mono fun e w' ⟨he, hw⟩ => ⟨by rw [he, data_str, index_cut]; rfl, hw.symm⟩
  cases hc : hasB c l
  · obtain ⟨e1, e2⟩ := cut_none c l hc
    rw [e1, e2]
    have HI := hide hidx
    clear hidx
    go_enter Tryz.func308, Tryz.ntmps308
    go_wp2_with (go_at_call 326; refine (HI.out _).mono ?_; rw [hc]; rintro e w1 ⟨rfl, rfl⟩)
    go_ret3
    exact ⟨rfl, Fr.refl _ _⟩
  · have hlt := cutW_lt c l hc
    have hs1 : ∀ w, (Instr.slice 9 (.string ⟨l.toArray⟩) none (some (.int .i64 (cutW c l).length)) none).run Tryz.prog w = .ok (.string ⟨(cutW c l).toArray⟩) w := fun w => by
      rw [sl_hi Tryz.underlying9 (by omega) w, cut_take]
    have hs2 : ∀ w, (Instr.slice 9 (.string ⟨l.toArray⟩) (some (.int .i64 ((cutW c l).length + 1))) none none).run Tryz.prog w = .ok (.string ⟨(cutR c l).toArray⟩) w := fun w => by
      have := sl_lo Tryz.underlying9 hlt w
      rw [cut_drop] at this
      exact this
    have HI := hide hidx
    clear hidx
    have hwr : IntKind.i64.wrap (((cutW c l).length : Int) + 1) = ((cutW c l).length : Int) + 1 := IntWalk.i64_in _ (by omega)
    generalize hk : (cutW c l).length = k at *
    have HK := hide hk
    clear hk
    go_enter Tryz.func308, Tryz.ntmps308
    go_wp2_with (go_at_call 326; refine (HI.out _).mono ?_; rw [hc]; rintro e w1 ⟨rfl, rfl⟩)
    go_quiet (fail)
    go_wp2
    go_ret3
    exact ⟨rfl, (Fr.refl _ _).drewN _⟩
set_option maxHeartbeats 400000 in
theorem cut_any (l : List UInt8) (c : UInt8) (w : World) (hl : l.length ≤ 4611686018427387904) :
    Calls Tryz.prog 284 #[.string ⟨l.toArray⟩, .string ⟨#[c]⟩] w fun e w' => e = .returned (.tuple #[.string ⟨(cutW c l).toArray⟩, .string ⟨(cutR c l).toArray⟩, .bool (hasB c l)]) ∧ Fr [] w w' := by
  go_enter Tryz.func284, Tryz.ntmps284
  go_wp2_with (go_at_call 308; refine (lcut_any _ _ _ hl).mono ?_; rintro e w1 ⟨rfl, hf1⟩)
  go_ret3
  exact ⟨rfl, hf1⟩
set_option maxHeartbeats 400000 in
theorem mant_any (l : List UInt8) (w : World) (hl : l.length ≤ 4611686018427387903) :
    Calls Tryz.prog 238 #[.string ⟨l.toArray⟩] w fun e w' => e = .returned (.tuple #[.string ⟨(dotW l).toArray⟩, .string ⟨(dotR l).toArray⟩, .bool (hasB 46 l), .bool (mantOk l)]) ∧ Fr [] w w' := by
  have h1 : (cutW 46 l).length ≤ l.length := cutW_le 46 l
  have h2 : (cutR 46 l).length ≤ l.length := cutR_le 46 l
  have e1 : dotW l = cutW 46 l := rfl
  have e2 : dotR l = cutR 46 l := rfl
  have e3 : mantOk l = (plainD (cutW 46 l) && plainD (cutR 46 l) && decide (0 < (cutW 46 l).length + (cutR 46 l).length)) := rfl
  rw [e1, e2, e3]
  clear e1 e2 e3
  have hc := fun w => cut_any l 46 w (by omega)
  have HC := hide hc
  clear hc
  generalize cutW 46 l = a at *
  generalize cutR 46 l = b at *
  rcases Nat.eq_zero_or_pos (a.length + b.length) with h0 | h0
  · have ea : a = [] := List.eq_nil_of_length_eq_zero (by omega)
    have eb : b = [] := List.eq_nil_of_length_eq_zero (by omega)
    subst ea
    subst eb
    have p0 : plainD [] = true := rfl
    go_enter Tryz.func238, Tryz.ntmps238
    go_wp2_with (first
      | (go_at_call 284; refine (HC.out _).mono ?_; rintro e w1 ⟨rfl, hf1⟩)
      | (go_at_call 285; refine (plain_any _ _ (by simp)).mono ?_; rintro e w1 ⟨rfl, hf2⟩))
    refine bodyPost_ret (results_tmp4 rfl _ _ _) rfl ?_
    exact ⟨rfl, (by repeat (first | with_reducible exact Fr.refl _ _ | with_reducible assumption | with_reducible refine Fr.drewN ?_ _ | with_reducible refine Fr.drew ?_ | with_reducible refine Fr.alloc ?_ _ | ((with_reducible refine Fr.setCell ?_ ?_ _) <;> first | (apply Or.inl; simp; done) | (apply Or.inr; simp; done) | (apply Or.inr; simp; omega) | skip) | (refine Fr.then0 ?_ (by with_reducible assumption)) | (refine Fr.trans ?_ (by with_reducible assumption))))⟩
  · have hd : decide (0 < a.length + b.length) = true := by simp; omega
    rw [hd]
    clear hd
    have hd2 : decide ((0 : Int) < (a.length : Int) + (b.length : Int)) = true := by simp; omega
    cases ha : plainD a
    · go_enter Tryz.func238, Tryz.ntmps238
      go_wp2_with (first
        | (go_at_call 284; refine (HC.out _).mono ?_; rintro e w1 ⟨rfl, hf1⟩)
        | (go_at_call 285; refine (plain_any _ _ (by omega)).mono ?_; rintro e w2 ⟨rfl, hf2⟩))
      refine bodyPost_ret (results_tmp4 rfl _ _ _) rfl ?_
      exact ⟨rfl, hf1.then0 hf2⟩
    · cases hb : plainD b
      · go_enter Tryz.func238, Tryz.ntmps238
        go_wp2_with (first
          | (go_at_call 284; refine (HC.out _).mono ?_; rintro e w1 ⟨rfl, hf1⟩)
          | (go_at_call 285; with_reducible (refine (plain_any a _ ?_).mono ?_); (· omega); rintro e w2 ⟨rfl, hf2⟩)
          | (go_at_call 285; with_reducible (refine (plain_any b _ ?_).mono ?_); (· omega); rintro e w3 ⟨rfl, hf3⟩))
        refine bodyPost_ret (results_tmp4 rfl _ _ _) rfl ?_
        exact ⟨rfl, (by repeat (first | with_reducible exact Fr.refl _ _ | with_reducible assumption | with_reducible refine Fr.drewN ?_ _ | with_reducible refine Fr.drew ?_ | with_reducible refine Fr.alloc ?_ _ | ((with_reducible refine Fr.setCell ?_ ?_ _) <;> first | (apply Or.inl; simp; done) | (apply Or.inr; simp; done) | (apply Or.inr; simp; omega) | skip) | (refine Fr.then0 ?_ (by with_reducible assumption)) | (refine Fr.trans ?_ (by with_reducible assumption))))⟩
      · go_enter Tryz.func238, Tryz.ntmps238
        go_wp2_with (first
          | (go_at_call 284; refine (HC.out _).mono ?_; rintro e w1 ⟨rfl, hf1⟩)
          | (go_at_call 285; with_reducible (refine (plain_any a _ ?_).mono ?_); (· omega); rintro e w2 ⟨rfl, hf2⟩)
          | (go_at_call 285; with_reducible (refine (plain_any b _ ?_).mono ?_); (· omega); rintro e w3 ⟨rfl, hf3⟩))
        refine bodyPost_ret (results_tmp4 rfl _ _ _) rfl ?_
        exact ⟨rfl, (by repeat (first | with_reducible exact Fr.refl _ _ | with_reducible assumption | with_reducible refine Fr.drewN ?_ _ | with_reducible refine Fr.drew ?_ | with_reducible refine Fr.alloc ?_ _ | ((with_reducible refine Fr.setCell ?_ ?_ _) <;> first | (apply Or.inl; simp; done) | (apply Or.inr; simp; done) | (apply Or.inr; simp; omega) | skip) | (refine Fr.then0 ?_ (by with_reducible assumption)) | (refine Fr.trans ?_ (by with_reducible assumption))))⟩
def Dg (w : World) (g : Nat) (ds : List Nat) : Prop := ∀ (j x : Nat), ds[j]? = some x → w.cell? ⟨g, j, none⟩ = some (.int .u8 (x : Int)) ∧ w.frozen? ⟨g, j, none⟩ = false
theorem Dg.set_ {w : World} {g : Nat} {a b : List Nat} {x y : Nat} (h : Dg w g (a ++ x :: b)) : Dg (w.setCell ⟨g, a.length, none⟩ (.int .u8 (y : Int))) g (a ++ y :: b) := by
  intro j z hz
  by_cases hj : j = a.length
  · subst hj
    have : y = z := by simpa using hz
    subst this
    obtain ⟨hc, hf⟩ := h a.length x (by simp)
    exact ⟨World.cell?_setCell_same _ _ _ hc, by rw [World.frozen?_setCell]; exact hf⟩
  · have hz' : (a ++ x :: b)[j]? = some z := by
      rw [← hz, List.getElem?_append, List.getElem?_append]
      split
      · rfl
      · obtain ⟨k, hk⟩ : ∃ k, j - a.length = k + 1 := ⟨j - a.length - 1, by omega⟩
        rw [hk]
        rfl
    obtain ⟨hc, hf⟩ := h j z hz'
    exact ⟨by rw [World.cell?_setCell_other _ _ _ _ (by intro e; injection e; omega)]; exact hc, by rw [World.frozen?_setCell]; exact hf⟩
set_option maxRecDepth 100000 in
set_option maxHeartbeats 400000 in
theorem double_any (g c : Nat) (ds : List Nat) (w : World) (hn : ds.length ≤ 1048576) (hd : Dg w g ds) (h9 : ∀ x, x ∈ ds → x ≤ 9) :
    Calls Tryz.prog 287 #[.slice (some ⟨g, 0, none⟩) ds.length c] w fun e w' => e = .returned (.int .i64 ((dblP ds).1 : Int)) ∧ Fr [g] w w' ∧ Dg w' g (dblP ds).2 := by
  generalize hnn : ds.length = n at *
  have HN := hide hnn
  clear hnn
  go_enter Tryz.func287, Tryz.ntmps287
  go_wp2
  go_loopw [3, 4] (fun cy i wr => ∃ m : Nat, m ≤ n ∧ i = .int .i64 ((m : Int) - 1) ∧ cy = .int .u8 ((dblP (ds.drop m)).1 : Int) ∧ Dg wr g (ds.take m ++ (dblP (ds.drop m)).2) ∧ Fr [g] w wr) (fun _ i _ => (intOf i + 1).toNat)
  case atStart =>
    refine ⟨n, Nat.le_refl _, rfl, ?_, ?_, Fr.refl _ _⟩
    · rw [← HN.out, List.drop_length]; rfl
    · rw [← HN.out, List.drop_length, List.take_length]; simpa [dblP] using hd
  case round =>
    obtain ⟨m, hm, rfl, rfl, hdg, hfr⟩ := hrel
    rcases Nat.eq_zero_or_pos m with h0 | h0
    · subst h0
      have hcy := dblP_carry ds h9
      simp only [List.drop_zero, List.take_zero, List.nil_append] at hdg
      go_wp2
      go_ret
      exact ⟨rfl, hfr, hdg⟩
    · obtain ⟨k, rfl⟩ : ∃ k, m = k + 1 := ⟨m - 1, by omega⟩
      have hk : k < ds.length := by have := HN.out; omega
      have h9k := h9 ds[k] (List.getElem_mem hk)
      have hcy := dblP_carry (ds.drop (k + 1)) (fun x hx => h9 x ((List.drop_sublist _ _).subset hx))
      obtain ⟨hc, hf⟩ := hdg k ds[k] (by rw [List.getElem?_append_left (by rw [List.length_take]; omega), List.getElem?_take, if_pos (by omega)]; exact List.getElem?_eq_getElem hk)
      go_wp2
      go_roundw
      case rel =>
        have hdr : ds.drop k = ds[k] :: ds.drop (k + 1) := List.drop_eq_getElem_cons hk
        have htk : ds.take (k + 1) = ds.take k ++ [ds[k]] := by rw [List.take_succ_eq_append_getElem hk]
        have hlen : (ds.take k).length = k := by rw [List.length_take]; omega
        refine ⟨k, by omega, rfl, ?_, ?_, hfr.setCell (.inl (by simp)) _⟩
        · rw [hdr]; rfl
        · rw [htk, List.append_assoc] at hdg
          have := Dg.set_ (y := (2 * ds[k] + (dblP (ds.drop (k + 1))).1) % 10) hdg
          rw [hlen] at this
          rw [hdr]
          exact this
      case measure => simp [intOf]
end Go.Proofs.YtdjhjfpeckndkaaGreatDoor
