/- Contracts: plex.whole, plex.number. -/
import Derived.Test.YtdjhjfpeckndkaaGreatDoorBkDecD
set_option linter.unusedVariables false
set_option linter.unusedSimpArgs false
namespace Go.Proofs.YtdjhjfpeckndkaaGreatDoor
open Go.RowKit

def sdL : List UInt8 := [43, 45, 48, 49, 50, 51, 52, 53, 54, 55, 56, 57]
def isSD (c : UInt8) : Bool := isD c || c.toNat == 43 || c.toNat == 45
theorem sd_is : ∀ c : UInt8, sdL.contains c = isSD c := all_u8 (by decide +kernel)
theorem trim_sd (l : List UInt8) (w : World) (hl : l.length ≤ 4611686018427387904) (h : l.all isSD = true) :
    Calls Tryz.prog 167 #[.string ⟨l.toArray⟩, .string ⟨#[43, 45, 48, 49, 50, 51, 52, 53, 54, 55, 56, 57]⟩] w fun e w' => e = .returned (.string ⟨#[]⟩) ∧ Fr [] w w' :=
  (Any.strings_Trim_laid Tryz.lays160 (by kernel_rfl) ⟨l.toArray⟩ ⟨#[43, 45, 48, 49, 50, 51, 52, 53, 54, 55, 56, 57]⟩ w (by rw [size_str]; omega) (by decide) (ascii_of_all (by decide))).mono fun e w' ⟨he, hb⟩ =>
    ⟨by
      have h0 : Lib.trimS l sdL = [] := (trim_nil l isSD sdL sd_is).2 h
      rw [he, data_str]
      exact congrArg (fun x : List UInt8 => Ending.returned (.string ⟨x.toArray⟩)) h0, Fr.of_below hb⟩
theorem wholeB_sd (l : List UInt8) (h : wholeB l = true) : l.all isSD = true := by
  unfold wholeB at h
  simp only [Bool.and_eq_true] at h
  have hp := plainD_digs _ h.1.2
  rw [List.all_eq_true]
  intro c hc
  match l, hc, hp with
  | x :: r, hc, hp =>
    unfold signP at hp
    simp only at hp
    rcases List.mem_cons.1 hc with rfl | hc
    · by_cases h45 : c.toNat = 45
      · simp [isSD, h45]
      · by_cases h43 : c.toNat = 43
        · simp [isSD, h43]
        · rw [if_neg h45, if_neg h43] at hp
          simp [isSD, hp c (by simp)]
    · have : isD c = true := by
        split at hp
        · exact hp c hc
        · split at hp
          · exact hp c hc
          · exact hp c (List.mem_cons_of_mem _ hc)
      simp [isSD, this]

theorem idx_has (c : UInt8) (l : List UInt8) : idxC l c = if hasB c l = true then ((cutW c l).length : Int) else -1 := index_cut c l

abbrev pobjV (k n : Int) (t : List UInt8) : Value := .agg #[.int .i64 k, .int .i64 n, .string ⟨t.toArray⟩, .slice none 0 0, .slice none 0 0, .slice none 0 0]
set_option maxRecDepth 100000 in
set_option maxHeartbeats 400000 in
theorem number_any (l : List UInt8) (w : World) (hl : l.length ≤ 4611686018427387903) (hbad : l.length ≤ 64 → badW l = false) :
    Calls Tryz.prog 159 #[.string ⟨l.toArray⟩] w fun e w' => e = .returned (.tuple #[pobjV (numK l) (numV l) [], .bool (numO l)]) ∧ Fr [] w w' := by
  have hix := fun w => indexByte_any ⟨l.toArray⟩ 46 w
  rw [data_str, idx_has] at hix
  cases hdot : hasB 46 l
  · have e0 : ∀ w, Calls Tryz.prog 113 #[.string ⟨l.toArray⟩, .int .u8 46] w fun e w' => e = .returned (.int .i64 (-1)) ∧ w = w' := fun w => by have := hix w; rw [hdot] at this; exact this
    have HX := hide e0
    clear e0 hix
    have htk := fun w => token_any l w hl hbad
    have HT := hide htk
    clear htk
    by_cases hw : l.length ≤ 64 ∧ wholeB l = true
    · have e1 : numK l = 2 := by unfold numK; rw [hdot, if_neg (by simp), if_pos hw]
      have e2 : numV l = wholeI l := by unfold numV; rw [hdot, if_neg (by simp), if_pos hw]
      have e3 : numO l = true := by unfold numO; rw [hdot, if_neg (by simp), decide_eq_true hw]
      have e4 : tokF l = tokV 1 (wholeI l) true 0 := by unfold tokF; rw [if_neg (by omega), if_pos hw.2]
      have hsd := wholeB_sd l hw.2
      rw [e4] at HT
      rw [e1, e2, e3]
      clear e1 e2 e3 e4
      have HSD := hide hsd
      clear hsd
      generalize wholeI l = v at *
      have HT2 : Hid (∀ w, Calls Tryz.prog 187 #[.string ⟨l.toArray⟩] w fun e w' => e = .returned (.tuple #[.agg #[.int .i64 1, .int .i64 v, .string ⟨#[]⟩], .bool true, .int .i64 0]) ∧ Fr [] w w') := HT
      go_enter Tryz.func159, Tryz.ntmps159
      go_wp2_with (first
        | (go_at_call 113; refine (HX.out _).mono ?_; rintro e w' ⟨rfl, rfl⟩)
        | ((go_at_call 187; refine (HT2.out _).mono ?_; rintro e w1 ⟨rfl, hf1⟩); have hB_w1 : Blk w1 w.heap.size 31 #[.int .i64 0, .int .i64 0, .string ⟨#[]⟩, .slice none 0 0, .slice none 0 0, .slice none 0 0] := Blk.keep (by repeat (first | assumption | exact Blk.new _ _ _ | apply Blk.alloc | apply Blk.drewN)) hf1 (by simp))
        | ((go_at_call 167; refine (trim_sd _ _ (by omega) HSD.out).mono ?_; rintro e w2 ⟨rfl, hf2⟩); have hB_w2 : Blk w2 w.heap.size 31 #[.int .i64 0, .int .i64 0, .string ⟨#[]⟩, .slice none 0 0, .slice none 0 0, .slice none 0 0] := Blk.keep (by repeat (first | assumption | exact Blk.new _ _ _ | apply Blk.alloc | apply Blk.drewN)) hf2 (by simp); have hT2 := (Blk.new w1 _ _).keep hf2 (by simp); obtain ⟨c0, c1, c2, c3, c4, c5, cz⟩ := hB_w2.c6; obtain ⟨d0, d1, d2, dz⟩ := hT2.c3))
      refine bodyPost_ret (v := .tuple #[pobjV 2 v [], .bool true]) (by simp [pobjV, results, Tryz.results159, go_sem, c0, c1, c2, c3, c4, c5, Nat.ne_of_lt hB_w1.lt, hB_w1.lt]) rfl ⟨rfl, (by repeat (first | with_reducible exact Fr.refl _ _ | with_reducible assumption | with_reducible refine Fr.drewN ?_ _ | with_reducible refine Fr.drew ?_ | with_reducible refine Fr.alloc ?_ _ | ((with_reducible refine Fr.setCell ?_ ?_ _) <;> first | (apply Or.inl; simp; done) | (apply Or.inr; simp; done) | (apply Or.inr; simp; omega) | skip) | (refine Fr.then0 ?_ (by with_reducible assumption)) | (refine Fr.trans ?_ (by with_reducible assumption))))⟩
    · have e1 : numK l = 0 := by unfold numK; rw [hdot, if_neg (by simp), if_neg hw]
      have e2 : numV l = 0 := by unfold numV; rw [hdot, if_neg (by simp), if_neg hw]
      have e3 : numO l = false := by unfold numO; rw [hdot, if_neg (by simp), decide_eq_false hw]
      have e4 : (∃ k v : Int, tokF l = tokV k v true 0 ∧ k = 2) ∨ tokF l = tokV 0 0 true 9 ∨ tokF l = tokV 0 0 false 0 := by
        unfold tokF
        by_cases h64 : 64 < l.length
        · rw [if_pos h64]; exact .inr (.inr rfl)
        · rw [if_neg h64, if_neg (fun h => hw ⟨by omega, h⟩)]
          split
          · split
            · exact .inl ⟨_, _, rfl, rfl⟩
            · exact .inr (.inl rfl)
          · exact .inr (.inr rfl)
      rw [e1, e2, e3]
      clear e1 e2 e3 hw
      rcases e4 with ⟨k, v, e4, rfl⟩ | e4 | e4
      all_goals
        rw [e4] at HT
        clear e4
      · have HT2 : Hid (∀ w, Calls Tryz.prog 187 #[.string ⟨l.toArray⟩] w fun e w' => e = .returned (.tuple #[.agg #[.int .i64 2, .int .i64 v, .string ⟨#[]⟩], .bool true, .int .i64 0]) ∧ Fr [] w w') := HT
        go_enter Tryz.func159, Tryz.ntmps159
        go_wp2_with (first
          | (go_at_call 113; refine (HX.out _).mono ?_; rintro e w' ⟨rfl, rfl⟩)
          | ((go_at_call 187; refine (HT2.out _).mono ?_; rintro e w1 ⟨rfl, hf1⟩); have hB_w1 : Blk w1 w.heap.size 31 #[.int .i64 0, .int .i64 0, .string ⟨#[]⟩, .slice none 0 0, .slice none 0 0, .slice none 0 0] := Blk.keep (by repeat (first | assumption | exact Blk.new _ _ _ | apply Blk.alloc | apply Blk.drewN)) hf1 (by simp); obtain ⟨c0, c1, c2, c3, c4, c5, cz⟩ := hB_w1.c6; have hlt1 := hB_w1.lt))
        refine bodyPost_ret (v := .tuple #[pobjV 0 0 [], .bool false]) (by simp [pobjV, results, Tryz.results159, go_sem, c0, c1, c2, c3, c4, c5, Nat.ne_of_lt hB_w1.lt, hB_w1.lt]) rfl ⟨rfl, (by repeat (first | with_reducible exact Fr.refl _ _ | with_reducible assumption | with_reducible refine Fr.drewN ?_ _ | with_reducible refine Fr.drew ?_ | with_reducible refine Fr.alloc ?_ _ | ((with_reducible refine Fr.setCell ?_ ?_ _) <;> first | (apply Or.inl; simp; done) | (apply Or.inr; simp; done) | (apply Or.inr; simp; omega) | skip) | (refine Fr.then0 ?_ (by with_reducible assumption)) | (refine Fr.trans ?_ (by with_reducible assumption))))⟩
      · have HT2 : Hid (∀ w, Calls Tryz.prog 187 #[.string ⟨l.toArray⟩] w fun e w' => e = .returned (.tuple #[.agg #[.int .i64 0, .int .i64 0, .string ⟨#[]⟩], .bool true, .int .i64 9]) ∧ Fr [] w w') := HT
        go_enter Tryz.func159, Tryz.ntmps159
        go_wp2_with (first
          | (go_at_call 113; refine (HX.out _).mono ?_; rintro e w' ⟨rfl, rfl⟩)
          | ((go_at_call 187; refine (HT2.out _).mono ?_; rintro e w1 ⟨rfl, hf1⟩); have hB_w1 : Blk w1 w.heap.size 31 #[.int .i64 0, .int .i64 0, .string ⟨#[]⟩, .slice none 0 0, .slice none 0 0, .slice none 0 0] := Blk.keep (by repeat (first | assumption | exact Blk.new _ _ _ | apply Blk.alloc | apply Blk.drewN)) hf1 (by simp); obtain ⟨c0, c1, c2, c3, c4, c5, cz⟩ := hB_w1.c6; have hlt1 := hB_w1.lt))
        refine bodyPost_ret (v := .tuple #[pobjV 0 0 [], .bool false]) (by simp [pobjV, results, Tryz.results159, go_sem, c0, c1, c2, c3, c4, c5, Nat.ne_of_lt hB_w1.lt, hB_w1.lt]) rfl ⟨rfl, (by repeat (first | with_reducible exact Fr.refl _ _ | with_reducible assumption | with_reducible refine Fr.drewN ?_ _ | with_reducible refine Fr.drew ?_ | with_reducible refine Fr.alloc ?_ _ | ((with_reducible refine Fr.setCell ?_ ?_ _) <;> first | (apply Or.inl; simp; done) | (apply Or.inr; simp; done) | (apply Or.inr; simp; omega) | skip) | (refine Fr.then0 ?_ (by with_reducible assumption)) | (refine Fr.trans ?_ (by with_reducible assumption))))⟩
      · have HT2 : Hid (∀ w, Calls Tryz.prog 187 #[.string ⟨l.toArray⟩] w fun e w' => e = .returned (.tuple #[.agg #[.int .i64 0, .int .i64 0, .string ⟨#[]⟩], .bool false, .int .i64 0]) ∧ Fr [] w w') := HT
        go_enter Tryz.func159, Tryz.ntmps159
        go_wp2_with (first
          | (go_at_call 113; refine (HX.out _).mono ?_; rintro e w' ⟨rfl, rfl⟩)
          | ((go_at_call 187; refine (HT2.out _).mono ?_; rintro e w1 ⟨rfl, hf1⟩); have hB_w1 : Blk w1 w.heap.size 31 #[.int .i64 0, .int .i64 0, .string ⟨#[]⟩, .slice none 0 0, .slice none 0 0, .slice none 0 0] := Blk.keep (by repeat (first | assumption | exact Blk.new _ _ _ | apply Blk.alloc | apply Blk.drewN)) hf1 (by simp); obtain ⟨c0, c1, c2, c3, c4, c5, cz⟩ := hB_w1.c6; have hlt1 := hB_w1.lt))
        refine bodyPost_ret (v := .tuple #[pobjV 0 0 [], .bool false]) (by simp [pobjV, results, Tryz.results159, go_sem, c0, c1, c2, c3, c4, c5, Nat.ne_of_lt hB_w1.lt, hB_w1.lt]) rfl ⟨rfl, (by repeat (first | with_reducible exact Fr.refl _ _ | with_reducible assumption | with_reducible refine Fr.drewN ?_ _ | with_reducible refine Fr.drew ?_ | with_reducible refine Fr.alloc ?_ _ | ((with_reducible refine Fr.setCell ?_ ?_ _) <;> first | (apply Or.inl; simp; done) | (apply Or.inr; simp; done) | (apply Or.inr; simp; omega) | skip) | (refine Fr.then0 ?_ (by with_reducible assumption)) | (refine Fr.trans ?_ (by with_reducible assumption))))⟩
  · have e0 : ∀ w, Calls Tryz.prog 113 #[.string ⟨l.toArray⟩, .int .u8 46] w fun e w' => e = .returned (.int .i64 (cutW 46 l).length) ∧ w = w' := fun w => by have := hix w; rw [hdot] at this; exact this
    have HX := hide e0
    clear e0 hix
    have e1 : numK l = 3 := by unfold numK; rw [hdot, if_pos rfl]
    have e2 : numV l = parseN l := by unfold numV; rw [hdot, if_pos rfl]
    have e3 : numO l = parseB l := by unfold numO; rw [hdot, if_pos rfl]
    rw [e1, e2, e3]
    clear e1 e2 e3
    go_enter Tryz.func159, Tryz.ntmps159
    go_wp2_with (first
      | (go_at_call 113; refine (HX.out _).mono ?_; rintro e w' ⟨rfl, rfl⟩)
      | ((go_at_call 186; refine (parse_any _ _ hl).mono ?_; rintro e w1 ⟨rfl, hf1⟩); have hB_w1 : Blk w1 w.heap.size 31 #[.int .i64 0, .int .i64 0, .string ⟨#[]⟩, .slice none 0 0, .slice none 0 0, .slice none 0 0] := Blk.keep (by repeat (first | assumption | exact Blk.new _ _ _ | apply Blk.alloc | apply Blk.drewN)) hf1 (by simp); obtain ⟨c0, c1, c2, c3, c4, c5, cz⟩ := hB_w1.c6; have hlt1 := hB_w1.lt))
    refine bodyPost_ret (v := .tuple #[pobjV 3 (parseN l) [], .bool (parseB l)]) (by simp [pobjV, results, Tryz.results159, go_sem, c0, c1, c2, c3, c4, c5, Nat.ne_of_lt hB_w1.lt, hB_w1.lt]) rfl ⟨rfl, (by repeat (first | with_reducible exact Fr.refl _ _ | with_reducible assumption | with_reducible refine Fr.drewN ?_ _ | with_reducible refine Fr.drew ?_ | with_reducible refine Fr.alloc ?_ _ | ((with_reducible refine Fr.setCell ?_ ?_ _) <;> first | (apply Or.inl; simp; done) | (apply Or.inr; simp; done) | (apply Or.inr; simp; omega) | skip) | (refine Fr.then0 ?_ (by with_reducible assumption)) | (refine Fr.trans ?_ (by with_reducible assumption))))⟩
end Go.Proofs.YtdjhjfpeckndkaaGreatDoor
