/- Contracts: dec.whole, radix and shift at plain words, Token. -/
import Derived.Test.YtdjhjfpeckndkaaGreatDoorBkDecC
set_option linter.unusedVariables false
set_option linter.unusedSimpArgs false
namespace Go.Proofs.YtdjhjfpeckndkaaGreatDoor
open Go.RowKit
theorem ret_ib {a b : Int} {x y : Bool} (h1 : a = b) (h2 : x = y) : Ending.returned (.tuple #[.int .i64 a, .bool x]) = .returned (.tuple #[.int .i64 b, .bool y]) := by rw [h1, h2]
theorem cap_next (n d : Nat) (hd : d ≤ 9) : capN (10 * n + d) = min (10 * capN n + d) 1099511627776 := by unfold capN; omega
set_option maxRecDepth 100000 in
set_option maxHeartbeats 400000 in
theorem whole_any (l : List UInt8) (w : World) (hl : l.length ≤ 4611686018427387903) :
    Calls Tryz.prog 241 #[.string ⟨l.toArray⟩] w fun e w' => (∃ n : Int, e = .returned (.tuple #[.int .i64 n, .bool (wholeB l)]) ∧ (wholeB l = true → n = wholeI l)) ∧ Fr [] w w' := by
  have hsl := signP_le l
  have hs := fun w => signed_any l w (by omega)
  have HS := hide hs
  clear hs
  have e1 : wholeB l = (!(signP l).2.isEmpty && plainD (signP l).2 && fitsI (wholeI l)) := rfl
  have e2 : wholeI l = negI (signP l).1 (capN (numD 0 (signP l).2)) := rfl
  rw [e1, e2]
  clear e1 e2
  generalize signP l = sg at *
  obtain ⟨mi, s⟩ := sg
  simp only at hsl HS ⊢
  match s, hsl, HS with
  | [], _, HS =>
    go_enter Tryz.func241, Tryz.ntmps241
    go_wp2_with (go_at_call 237; refine (HS.out _).mono ?_; rintro e w1 ⟨rfl, hf1⟩)
    go_ret2
    exact ⟨⟨0, rfl, fun h => by cases h⟩, (by repeat (first | with_reducible exact Fr.refl _ _ | with_reducible assumption | with_reducible refine Fr.drewN ?_ _ | with_reducible refine Fr.drew ?_ | with_reducible refine Fr.alloc ?_ _ | ((with_reducible refine Fr.setCell ?_ ?_ _) <;> first | (apply Or.inl; simp; done) | (apply Or.inr; simp; done) | (apply Or.inr; simp; omega) | skip) | (refine Fr.then0 ?_ (by with_reducible assumption)) | (refine Fr.trans ?_ (by with_reducible assumption))))⟩
  | c :: r, hsl, HS =>
    cases hp : plainD (c :: r)
    · go_enter Tryz.func241, Tryz.ntmps241
      go_wp2_with (first
        | (go_at_call 237; refine (HS.out _).mono ?_; rintro e w1 ⟨rfl, hf1⟩)
        | (go_at_call 285; refine (plain_any _ _ (by omega)).mono ?_; rw [hp]; rintro e w2 ⟨rfl, hf2⟩))
      go_ret2
      exact ⟨⟨0, rfl, fun h => by cases h⟩, (by repeat (first | with_reducible exact Fr.refl _ _ | with_reducible assumption | with_reducible refine Fr.drewN ?_ _ | with_reducible refine Fr.drew ?_ | with_reducible refine Fr.alloc ?_ _ | ((with_reducible refine Fr.setCell ?_ ?_ _) <;> first | (apply Or.inl; simp; done) | (apply Or.inr; simp; done) | (apply Or.inr; simp; omega) | skip) | (refine Fr.then0 ?_ (by with_reducible assumption)) | (refine Fr.trans ?_ (by with_reducible assumption))))⟩
    · have e1 : (!(c :: r).isEmpty && true && fitsI (negI mi (capN (numD 0 (c :: r))))) = fitsI (negI mi (capN (numD 0 (c :: r)))) := rfl
      rw [e1]
      clear e1
      generalize hcr : c :: r = l2 at *
      have hne1 : ¬ l2 = [] := by subst hcr; simp
      have hne2 : l2.isEmpty = false := by subst hcr; rfl
      have HCR := hide hcr
      clear hcr
      obtain ⟨v, hv⟩ : ∃ v, v = capN (numD 0 l2) := ⟨_, rfl⟩
      rw [← hv]
      have HV := hide hv
      clear hv
      go_enter Tryz.func241, Tryz.ntmps241
      go_wp2_with (first
        | (go_at_call 237; refine (HS.out _).mono ?_; rintro e w1 ⟨rfl, hf1⟩)
        | (go_at_call 285; refine (plain_any _ _ (by omega)).mono ?_; rw [hp]; rintro e w2 ⟨rfl, hf2⟩))
      obtain ⟨cc, W1, hcv, hf3, hsz1, hcl1, _, _⟩ := conv_bytes (P := Tryz.prog) Tryz.underlying9 Tryz.underlying22 Tryz.underlying5 l2 w2
      have HC1 := hide hcl1
      clear hcl1 hsz1
      generalize w2.heap.size = g1 at *
      go_simp
      go_wp2_with fail
      go_loop [5, 23] (fun nn i => ∃ k : Nat, k ≤ l2.length ∧ i = .int .i64 k ∧ nn = .int .i64 (capN (numD 0 (l2.take k)) : Nat)) (fun _ i => l2.length - (intOf i).toNat)
      case atStart => exact ⟨0, Nat.zero_le _, rfl, rfl⟩
      case round =>
        obtain ⟨k, hk, rfl, rfl⟩ := hrel
        have hcap : capN (numD 0 (l2.take k)) ≤ 1099511627776 := by unfold capN; omega
        by_cases hlt : k < l2.length
        · obtain ⟨u, hu⟩ : ∃ u, l2[k]? = some u := ⟨_, List.getElem?_eq_getElem hlt⟩
          obtain ⟨hcu, _⟩ := HC1.out k u hu
          have hisd : 48 ≤ u.toNat ∧ u.toNat ≤ 57 := by
            have := plainD_digs l2 hp u (List.mem_of_getElem? hu)
            simpa [isD] using this
          have HN : Hid (capN (numD 0 (l2.take (k + 1))) = min (10 * capN (numD 0 (l2.take k)) + digV u) 1099511627776) := by
            rw [numD_next hu]
            exact cap_next _ _ (by unfold digV; omega)
          clear hu
          go_wp2
          go_round
          case rel => exact ⟨k + 1, by omega, by go_num, by rw [HN.out]; unfold digV; congr 1; omega⟩
          case measure => simp [intOf]; omega
        · have HF : Hid (capN (numD 0 (l2.take k)) = v) := by
            have : capN (numD 0 (l2.take k)) = v := by rw [HV.out, List.take_of_length_le (by omega)]
            exact this
          rw [HF.out] at hcap ⊢
          cases mi
          all_goals
            go_wp2
            all_goals
              go_ret2
              refine ⟨⟨_, ret_ib (b := negI _ (v : Int)) rfl ?_, fun _ => rfl⟩, (by repeat (first | with_reducible exact Fr.refl _ _ | with_reducible assumption | with_reducible refine Fr.drewN ?_ _ | with_reducible refine Fr.drew ?_ | with_reducible refine Fr.alloc ?_ _ | ((with_reducible refine Fr.setCell ?_ ?_ _) <;> first | (apply Or.inl; simp; done) | (apply Or.inr; simp; done) | (apply Or.inr; simp; omega) | skip) | (refine Fr.then0 ?_ (by with_reducible assumption)) | (refine Fr.trans ?_ (by with_reducible assumption))))⟩
              unfold fitsI negI
              rw [Bool.eq_iff_iff]
              simp
              try omega

theorem badW_has (l : List UInt8) (h : badW l = false) : hasB 35 l = false := by
  cases hc : hasB 35 l
  · rfl
  · exfalso
    have hm : (35 : UInt8) ∈ l := by simpa [hasB] using hc
    have : badW l = true := List.any_eq_true.2 ⟨35, hm, rfl⟩
    rw [h] at this
    cases this
theorem badW_sub (l r : List UInt8) (h : badW l = false) (hs : ∀ c, c ∈ r → c ∈ l) : badW r = false := by
  cases hc : badW r
  · rfl
  · obtain ⟨c, hm, hp⟩ := List.any_eq_true.1 hc
    have : badW l = true := List.any_eq_true.2 ⟨c, hs c hm, hp⟩
    rw [h] at this
    cases this
theorem signP_sub (l : List UInt8) : ∀ c, c ∈ (signP l).2 → c ∈ l := by
  intro c hc
  unfold signP at hc
  split at hc
  · exact hc
  · split at hc
    · exact List.mem_cons_of_mem _ hc
    · split at hc
      · exact List.mem_cons_of_mem _ hc
      · exact hc
theorem indexAny_no : ∀ l : List UInt8, badW l = false → Lib.indexAny l [101, 69] = -1
  | [], _ => rfl
  | c :: r, h => by
    have h1 : badW r = false := badW_sub _ _ h (fun x hx => List.mem_cons_of_mem _ hx)
    have h2 : ([101, 69] : List UInt8).contains c = false := by
      cases hx : ([101, 69] : List UInt8).contains c
      · rfl
      · exfalso
        have hm : c = 101 ∨ c = 69 := by simpa using hx
        have : badW (c :: r) = true := List.any_eq_true.2 ⟨c, by simp, by rcases hm with rfl | rfl <;> rfl⟩
        rw [h] at this
        cases this
    unfold Lib.indexAny
    rw [h2, indexAny_no r h1]
    rfl
theorem indexAny_e (l : List UInt8) (w : World) (hl : l.length ≤ 1048576) (h : badW l = false) :
    Calls Tryz.prog 242 #[.string ⟨l.toArray⟩, .string ⟨#[101, 69]⟩] w fun e w' => e = .returned (.int .i64 (-1)) ∧ Fr [] w w' :=
  (Tryz.strings_IndexAny_laid ⟨l.toArray⟩ ⟨#[101, 69]⟩ w (by rw [size_str]; omega) (by decide) (fun j b hb => by
    have hm : b ∈ l := List.mem_of_getElem? (by simpa using hb)
    rcases Nat.lt_or_ge b.toNat 128 with h1 | h1
    · exact h1
    · exfalso
      have : badW l = true := List.any_eq_true.2 ⟨b, hm, by simp; omega⟩
      rw [h] at this
      cases this) (ascii_of_all (by decide))).mono fun e w' ⟨he, hb⟩ => ⟨by
    rw [he, data_str]
    have := indexAny_no l h
    exact congrArg (fun x => Ending.returned (.int .i64 x)) this, Fr.of_below hb⟩

set_option maxRecDepth 100000 in
set_option maxHeartbeats 400000 in
theorem shift0_any (a b : List UInt8) (w : World) (hl : a.length + b.length ≤ 1048576) :
    Calls Tryz.prog 244 #[.string ⟨a.toArray⟩, .string ⟨b.toArray⟩, .int .i64 0] w fun e w' => e = .returned (.tuple #[.string ⟨a.toArray⟩, .string ⟨b.toArray⟩]) ∧ Fr [] w w' := by
  have hcat := cat_str a b
  have h1 : ∀ w, (Instr.slice 9 (.string ⟨(a ++ b).toArray⟩) none (some (.int .i64 a.length)) none).run Tryz.prog w = .ok (.string ⟨a.toArray⟩) w := fun w => by
    have := sl_hi Tryz.underlying9 (l := a ++ b) (k := a.length) (by simp) w
    rwa [List.take_left'  rfl] at this
  have h2 : ∀ w, (Instr.slice 9 (.string ⟨(a ++ b).toArray⟩) (some (.int .i64 a.length)) none none).run Tryz.prog w = .ok (.string ⟨b.toArray⟩) w := fun w => by
    have := sl_lo Tryz.underlying9 (l := a ++ b) (k := a.length) (by simp) w
    rwa [List.drop_left' rfl] at this
  have hd1 : decide ((a.length : Int) < 0) = false := by simp
  have hd2 : decide ((a.length : Int) + (b.length : Int) < (a.length : Int)) = false := by simp; try omega
  have hd3 : decide (((a ++ b).length : Int) < (a.length : Int)) = false := by simp; try omega
  have hd4 : decide ((a ++ b).length < a.length) = false := by simp
  have hle : a.length ≤ (a ++ b).length := by simp
  generalize a ++ b = ab at *
  go_enter Tryz.func244, Tryz.ntmps244
  go_wp2
  go_quiet (fail)
  go_wp2
  go_ret2
  exact ⟨rfl, (by repeat (first | with_reducible exact Fr.refl _ _ | with_reducible assumption | with_reducible refine Fr.drewN ?_ _ | with_reducible refine Fr.drew ?_ | with_reducible refine Fr.alloc ?_ _ | ((with_reducible refine Fr.setCell ?_ ?_ _) <;> first | (apply Or.inl; simp; done) | (apply Or.inr; simp; done) | (apply Or.inr; simp; omega) | skip) | (refine Fr.then0 ?_ (by with_reducible assumption)) | (refine Fr.trans ?_ (by with_reducible assumption))))⟩
set_option maxHeartbeats 400000 in
theorem radix_no (l : List UInt8) (w : World) (hl : l.length ≤ 64) (h : hasB 35 l = false) :
    Calls Tryz.prog 240 #[.string ⟨l.toArray⟩] w fun e w' => e = .returned (.tuple #[.agg #[.int .i64 0, .int .i64 0, .string ⟨#[]⟩], .bool false, .int .i64 0]) ∧ Fr [] w w' := by
  obtain ⟨e1, e2⟩ := cut_none 35 l h
  have hc := fun w => cut_any l 35 w (by omega)
  rw [h] at hc
  rw [show cutW 35 l = l from e1, show cutR 35 l = [] from e2] at hc
  have HC := hide hc
  clear hc e1 e2
  go_enter Tryz.func240, Tryz.ntmps240
  go_wp2_with (go_at_call 284; refine (HC.out _).mono ?_; rintro e w1 ⟨rfl, hf1⟩; obtain ⟨c0, c1, c2, cz⟩ := ((Blk.new w _ _).keep hf1 (by simp)).c3)
  refine bodyPost_ret (v := .tuple #[.agg #[.int .i64 0, .int .i64 0, .string ⟨#[]⟩], .bool false, .int .i64 0]) (by simp [results, Tryz.results240, go_sem, c0, c1, c2]) rfl ⟨rfl, ?_⟩
  exact (by repeat (first | with_reducible exact Fr.refl _ _ | with_reducible assumption | with_reducible refine Fr.drewN ?_ _ | with_reducible refine Fr.drew ?_ | with_reducible refine Fr.alloc ?_ _ | ((with_reducible refine Fr.setCell ?_ ?_ _) <;> first | (apply Or.inl; simp; done) | (apply Or.inr; simp; done) | (apply Or.inr; simp; omega) | skip) | (refine Fr.then0 ?_ (by with_reducible assumption)) | (refine Fr.trans ?_ (by with_reducible assumption))))
def tokV (k n : Int) (ok : Bool) (e : Int) : Value := .tuple #[.agg #[.int .i64 k, .int .i64 n, .string ⟨#[]⟩], .bool ok, .int .i64 e]
def tokF (l : List UInt8) : Value :=
  if 64 < l.length then tokV 0 0 false 0
  else if wholeB l then tokV 1 (wholeI l) true 0
  else if mantOk (signP l).2 then
    (if valueB (signP l).1 (dotW (signP l).2) (dotR (signP l).2) then tokV 2 (valueN (signP l).1 (dotW (signP l).2) (dotR (signP l).2)) true 0 else tokV 0 0 true 9)
  else tokV 0 0 false 0
set_option maxRecDepth 100000 in
set_option maxHeartbeats 400000 in
theorem token_any (l : List UInt8) (w : World) (hl : l.length ≤ 4611686018427387903) (hbad : l.length ≤ 64 → badW l = false) :
    Calls Tryz.prog 187 #[.string ⟨l.toArray⟩] w fun e w' => e = .returned (tokF l) ∧ Fr [] w w' := by
  by_cases h64 : l.length ≤ 64
  · have hd : decide ((64 : Int) < (l.length : Int)) = false := by simp; omega
    have hb := hbad h64
    have h35 := badW_has l hb
    have hr := fun w => radix_no l w h64 h35
    have HR := hide hr
    clear hr
    have hwh := fun w => whole_any l w (by omega)
    have HW := hide hwh
    clear hwh
    have e1 : tokF l = if wholeB l then tokV 1 (wholeI l) true 0 else if mantOk (signP l).2 then (if valueB (signP l).1 (dotW (signP l).2) (dotR (signP l).2) then tokV 2 (valueN (signP l).1 (dotW (signP l).2) (dotR (signP l).2)) true 0 else tokV 0 0 true 9) else tokV 0 0 false 0 := by
      unfold tokF; rw [if_neg (by omega)]
    rw [e1]
    clear e1
    have HB := hide hb
    clear hb hbad h35
    cases hwb : wholeB l
    · have hsl := signP_le l
      have hsb : badW (signP l).2 = false := badW_sub _ _ HB.out (signP_sub l)
      have hs := fun w => signed_any l w (by omega)
      have HS := hide hs
      clear hs
      generalize signP l = sg at *
      obtain ⟨mi, s⟩ := sg
      simp only at hsl HS hsb ⊢
      have HSB := hide hsb
      clear hsb
      have hwl : (dotW s).length ≤ s.length := cutW_le 46 s
      have hrl : (dotR s).length ≤ s.length := cutR_le 46 s
      have hm := fun w => mant_any s w (by omega)
      have HM := hide hm
      clear hm
      cases hok : mantOk s
      · simp only [Bool.false_eq_true, if_false]
        go_enter Tryz.func187, Tryz.ntmps187
        go_wp2_with (first
          | ((go_at_call 240; refine (HR.out _).mono ?_; rintro e w1 ⟨rfl, hf1⟩); have hB_w1 : Blk w1 w.heap.size 212 #[.int .i64 0, .int .i64 0, .string ⟨#[]⟩] := Blk.keep (by repeat (first | assumption | exact Blk.new _ _ _ | apply Blk.alloc | apply Blk.drewN)) hf1 (by simp); obtain ⟨c0, c1, c2, cz⟩ := hB_w1.c3)
          | (go_at_call 241; refine (HW.out _).mono ?_; rw [hwb]; rintro e w2 ⟨⟨nn, rfl, _⟩, hf2⟩; have hB_w2 : Blk w2 w.heap.size 212 #[.int .i64 0, .int .i64 0, .string ⟨#[]⟩] := Blk.keep (by repeat (first | assumption | exact Blk.new _ _ _ | apply Blk.alloc | apply Blk.drewN)) hf2 (by simp))
          | ((go_at_call 237; refine (HS.out _).mono ?_; rintro e w3 ⟨rfl, hf3⟩); have hB_w3 : Blk w3 w.heap.size 212 #[.int .i64 0, .int .i64 0, .string ⟨#[]⟩] := Blk.keep (by repeat (first | assumption | exact Blk.new _ _ _ | apply Blk.alloc | apply Blk.drewN)) hf3 (by simp))
          | ((go_at_call 242; refine (indexAny_e _ _ (by omega) HSB.out).mono ?_; rintro e w4 ⟨rfl, hf4⟩); have hB_w4 : Blk w4 w.heap.size 212 #[.int .i64 0, .int .i64 0, .string ⟨#[]⟩] := Blk.keep (by repeat (first | assumption | exact Blk.new _ _ _ | apply Blk.alloc | apply Blk.drewN)) hf4 (by simp))
          | (go_at_call 238; refine (HM.out _).mono ?_; rw [hok]; rintro e w5 ⟨rfl, hf5⟩; have hB_w5 : Blk w5 w.heap.size 212 #[.int .i64 0, .int .i64 0, .string ⟨#[]⟩] := Blk.keep (by repeat (first | assumption | exact Blk.new _ _ _ | apply Blk.alloc | apply Blk.drewN)) hf5 (by simp); obtain ⟨d0, d1, d2, dz⟩ := hB_w5.c3))
        refine bodyPost_ret (v := tokV 0 0 false 0) (by simp [tokV, results, Tryz.results187, go_sem, d0, d1, d2]) rfl ⟨rfl, (by repeat (first | with_reducible exact Fr.refl _ _ | with_reducible assumption | with_reducible refine Fr.drewN ?_ _ | with_reducible refine Fr.drew ?_ | with_reducible refine Fr.alloc ?_ _ | ((with_reducible refine Fr.setCell ?_ ?_ _) <;> first | (apply Or.inl; simp; done) | (apply Or.inr; simp; done) | (apply Or.inr; simp; omega) | skip) | (refine Fr.then0 ?_ (by with_reducible assumption)) | (refine Fr.trans ?_ (by with_reducible assumption))))⟩
      · obtain ⟨hp1, hp2⟩ := mantOk_parts hok
        have hv := fun w => value_any mi (dotW s) (dotR s) w hp1 hp2 (by omega) (by omega)
        have HV := hide hv
        clear hv
        generalize dotW s = a at *
        generalize dotR s = b at *
        cases hvb : valueB mi a b
        · simp only [Bool.false_eq_true, if_false, if_true]
          go_enter Tryz.func187, Tryz.ntmps187
          go_wp2_with (first
            | ((go_at_call 240; refine (HR.out _).mono ?_; rintro e w1 ⟨rfl, hf1⟩); have hB_w1 : Blk w1 w.heap.size 212 #[.int .i64 0, .int .i64 0, .string ⟨#[]⟩] := Blk.keep (by repeat (first | assumption | exact Blk.new _ _ _ | apply Blk.alloc | apply Blk.drewN)) hf1 (by simp); obtain ⟨c0, c1, c2, cz⟩ := hB_w1.c3)
            | (go_at_call 241; refine (HW.out _).mono ?_; rw [hwb]; rintro e w2 ⟨⟨nn, rfl, _⟩, hf2⟩; have hB_w2 : Blk w2 w.heap.size 212 #[.int .i64 0, .int .i64 0, .string ⟨#[]⟩] := Blk.keep (by repeat (first | assumption | exact Blk.new _ _ _ | apply Blk.alloc | apply Blk.drewN)) hf2 (by simp))
            | ((go_at_call 237; refine (HS.out _).mono ?_; rintro e w3 ⟨rfl, hf3⟩); have hB_w3 : Blk w3 w.heap.size 212 #[.int .i64 0, .int .i64 0, .string ⟨#[]⟩] := Blk.keep (by repeat (first | assumption | exact Blk.new _ _ _ | apply Blk.alloc | apply Blk.drewN)) hf3 (by simp))
            | ((go_at_call 242; refine (indexAny_e _ _ (by omega) HSB.out).mono ?_; rintro e w4 ⟨rfl, hf4⟩); have hB_w4 : Blk w4 w.heap.size 212 #[.int .i64 0, .int .i64 0, .string ⟨#[]⟩] := Blk.keep (by repeat (first | assumption | exact Blk.new _ _ _ | apply Blk.alloc | apply Blk.drewN)) hf4 (by simp))
            | (go_at_call 238; refine (HM.out _).mono ?_; rw [hok]; rintro e w5 ⟨rfl, hf5⟩; have hB_w5 : Blk w5 w.heap.size 212 #[.int .i64 0, .int .i64 0, .string ⟨#[]⟩] := Blk.keep (by repeat (first | assumption | exact Blk.new _ _ _ | apply Blk.alloc | apply Blk.drewN)) hf5 (by simp))
            | ((go_at_call 244; refine (shift0_any _ _ _ (by omega)).mono ?_; rintro e w6 ⟨rfl, hf6⟩); have hB_w6 : Blk w6 w.heap.size 212 #[.int .i64 0, .int .i64 0, .string ⟨#[]⟩] := Blk.keep (by repeat (first | assumption | exact Blk.new _ _ _ | apply Blk.alloc | apply Blk.drewN)) hf6 (by simp))
            | (go_at_call 239; refine (HV.out _).mono ?_; rw [hvb]; rintro e w7 ⟨rfl, hf7⟩; have hB_w7 : Blk w7 w.heap.size 212 #[.int .i64 0, .int .i64 0, .string ⟨#[]⟩] := Blk.keep (by repeat (first | assumption | exact Blk.new _ _ _ | apply Blk.alloc | apply Blk.drewN)) hf7 (by simp); obtain ⟨d0, d1, d2, dz⟩ := hB_w7.c3))
          refine bodyPost_ret (v := tokV 0 0 true 9) (by simp [tokV, results, Tryz.results187, go_sem, d0, d1, d2]) rfl ⟨rfl, (by repeat (first | with_reducible exact Fr.refl _ _ | with_reducible assumption | with_reducible refine Fr.drewN ?_ _ | with_reducible refine Fr.drew ?_ | with_reducible refine Fr.alloc ?_ _ | ((with_reducible refine Fr.setCell ?_ ?_ _) <;> first | (apply Or.inl; simp; done) | (apply Or.inr; simp; done) | (apply Or.inr; simp; omega) | skip) | (refine Fr.then0 ?_ (by with_reducible assumption)) | (refine Fr.trans ?_ (by with_reducible assumption))))⟩
        · simp only [Bool.false_eq_true, if_false, if_true]
          generalize valueN mi a b = vv at *
          go_enter Tryz.func187, Tryz.ntmps187
          go_wp2_with (first
            | ((go_at_call 240; refine (HR.out _).mono ?_; rintro e w1 ⟨rfl, hf1⟩); have hB_w1 : Blk w1 w.heap.size 212 #[.int .i64 0, .int .i64 0, .string ⟨#[]⟩] := Blk.keep (by repeat (first | assumption | exact Blk.new _ _ _ | apply Blk.alloc | apply Blk.drewN)) hf1 (by simp); obtain ⟨c0, c1, c2, cz⟩ := hB_w1.c3)
            | (go_at_call 241; refine (HW.out _).mono ?_; rw [hwb]; rintro e w2 ⟨⟨nn, rfl, _⟩, hf2⟩; have hB_w2 : Blk w2 w.heap.size 212 #[.int .i64 0, .int .i64 0, .string ⟨#[]⟩] := Blk.keep (by repeat (first | assumption | exact Blk.new _ _ _ | apply Blk.alloc | apply Blk.drewN)) hf2 (by simp))
            | ((go_at_call 237; refine (HS.out _).mono ?_; rintro e w3 ⟨rfl, hf3⟩); have hB_w3 : Blk w3 w.heap.size 212 #[.int .i64 0, .int .i64 0, .string ⟨#[]⟩] := Blk.keep (by repeat (first | assumption | exact Blk.new _ _ _ | apply Blk.alloc | apply Blk.drewN)) hf3 (by simp))
            | ((go_at_call 242; refine (indexAny_e _ _ (by omega) HSB.out).mono ?_; rintro e w4 ⟨rfl, hf4⟩); have hB_w4 : Blk w4 w.heap.size 212 #[.int .i64 0, .int .i64 0, .string ⟨#[]⟩] := Blk.keep (by repeat (first | assumption | exact Blk.new _ _ _ | apply Blk.alloc | apply Blk.drewN)) hf4 (by simp))
            | (go_at_call 238; refine (HM.out _).mono ?_; rw [hok]; rintro e w5 ⟨rfl, hf5⟩; have hB_w5 : Blk w5 w.heap.size 212 #[.int .i64 0, .int .i64 0, .string ⟨#[]⟩] := Blk.keep (by repeat (first | assumption | exact Blk.new _ _ _ | apply Blk.alloc | apply Blk.drewN)) hf5 (by simp))
            | ((go_at_call 244; refine (shift0_any _ _ _ (by omega)).mono ?_; rintro e w6 ⟨rfl, hf6⟩); have hB_w6 : Blk w6 w.heap.size 212 #[.int .i64 0, .int .i64 0, .string ⟨#[]⟩] := Blk.keep (by repeat (first | assumption | exact Blk.new _ _ _ | apply Blk.alloc | apply Blk.drewN)) hf6 (by simp))
            | (go_at_call 239; refine (HV.out _).mono ?_; rw [hvb]; rintro e w7 ⟨rfl, hf7⟩; have hB_w7 : Blk w7 w.heap.size 212 #[.int .i64 0, .int .i64 0, .string ⟨#[]⟩] := Blk.keep (by repeat (first | assumption | exact Blk.new _ _ _ | apply Blk.alloc | apply Blk.drewN)) hf7 (by simp); obtain ⟨d0, d1, d2, dz⟩ := hB_w7.c3))
          refine bodyPost_ret (v := tokV 2 vv true 0) (by simp [tokV, results, Tryz.results187, go_sem, d0, d1, d2]) rfl ⟨rfl, (by repeat (first | with_reducible exact Fr.refl _ _ | with_reducible assumption | with_reducible refine Fr.drewN ?_ _ | with_reducible refine Fr.drew ?_ | with_reducible refine Fr.alloc ?_ _ | ((with_reducible refine Fr.setCell ?_ ?_ _) <;> first | (apply Or.inl; simp; done) | (apply Or.inr; simp; done) | (apply Or.inr; simp; omega) | skip) | (refine Fr.then0 ?_ (by with_reducible assumption)) | (refine Fr.trans ?_ (by with_reducible assumption))))⟩
    · simp only [if_true]
      have HWI : Hid (∀ n : Int, (wholeB l = true → n = wholeI l) → n = wholeI l) := fun n h => h hwb
      go_enter Tryz.func187, Tryz.ntmps187
      go_wp2_with (first
        | ((go_at_call 240; refine (HR.out _).mono ?_; rintro e w1 ⟨rfl, hf1⟩); have hB_w1 : Blk w1 w.heap.size 212 #[.int .i64 0, .int .i64 0, .string ⟨#[]⟩] := Blk.keep (by repeat (first | assumption | exact Blk.new _ _ _ | apply Blk.alloc | apply Blk.drewN)) hf1 (by simp); obtain ⟨c0, c1, c2, cz⟩ := hB_w1.c3)
        | (go_at_call 241; refine (HW.out _).mono ?_; rintro e w2 ⟨⟨nn, rfl, hnn⟩, hf2⟩; have hB_w2 : Blk w2 w.heap.size 212 #[.int .i64 0, .int .i64 0, .string ⟨#[]⟩] := Blk.keep (by repeat (first | assumption | exact Blk.new _ _ _ | apply Blk.alloc | apply Blk.drewN)) hf2 (by simp); obtain ⟨d0, d1, d2, dz⟩ := hB_w2.c3; have HNN := hide (HWI.out nn hnn); clear hnn))
      refine bodyPost_ret (v := tokV 1 nn true 0) (by simp [tokV, results, Tryz.results187, go_sem, d0, d1, d2]) rfl ⟨by rw [HNN.out], (by repeat (first | with_reducible exact Fr.refl _ _ | with_reducible assumption | with_reducible refine Fr.drewN ?_ _ | with_reducible refine Fr.drew ?_ | with_reducible refine Fr.alloc ?_ _ | ((with_reducible refine Fr.setCell ?_ ?_ _) <;> first | (apply Or.inl; simp; done) | (apply Or.inr; simp; done) | (apply Or.inr; simp; omega) | skip) | (refine Fr.then0 ?_ (by with_reducible assumption)) | (refine Fr.trans ?_ (by with_reducible assumption))))⟩
  · have hd : decide ((64 : Int) < (l.length : Int)) = true := by simp; omega
    have e1 : tokF l = tokV 0 0 false 0 := by unfold tokF; rw [if_pos (by omega)]
    rw [e1]
    go_enter Tryz.func187, Tryz.ntmps187
    go_wp2
    refine bodyPost_ret (v := tokV 0 0 false 0) (by simp [tokV, results, Tryz.results187, go_sem]) rfl ⟨rfl, (by repeat (first | with_reducible exact Fr.refl _ _ | with_reducible assumption | with_reducible refine Fr.drewN ?_ _ | with_reducible refine Fr.drew ?_ | with_reducible refine Fr.alloc ?_ _ | ((with_reducible refine Fr.setCell ?_ ?_ _) <;> first | (apply Or.inl; simp; done) | (apply Or.inr; simp; done) | (apply Or.inr; simp; omega) | skip) | (refine Fr.then0 ?_ (by with_reducible assumption)) | (refine Fr.trans ?_ (by with_reducible assumption))))⟩
end Go.Proofs.YtdjhjfpeckndkaaGreatDoor
