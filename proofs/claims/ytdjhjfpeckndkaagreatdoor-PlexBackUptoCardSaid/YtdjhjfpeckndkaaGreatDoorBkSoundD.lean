/- Contracts: the reference's sound, at streams and at every object. -/
/- Contracts: the reference's Print of objects. -/
import Derived.Test.YtdjhjfpeckndkaaGreatDoorBkSoundB
import Derived.Test.YtdjhjfpeckndkaaGreatDoorBkPrintA
set_option linter.unusedVariables false
set_option linter.unusedSimpArgs false
namespace Go.Proofs.YtdjhjfpeckndkaaGreatDoor
open Go.RowKit
set_option maxRecDepth 100000 in
set_option maxHeartbeats 4000000 in
theorem sound_k9 {w0 : World} {N : Nat → Prop} {d : Nat} (IH : SoundOK w0 N d) {st : Bool} {Ak Al Ad : Option Addr} {nk ck nl cl nd cd : Nat} {keys : List (List UInt8)} {list : List PObj} {css : List (List Value)} (hkr : Rd w0 N 1 Ak nk (keys.map strV)) (hks : ∀ s ∈ keys, s.length ≤ maxLen) (hl : Rd w0 N 6 Al nl css.flatten) (hcs : css.length = nl) (hll : list.length = nl)
    (ho : ∀ (i : Nat) cs o, css[i]? = some cs → list[i]? = some o → OV w0 N cs o) (hkn : nk = nl) (hst : st = true) (hd0 : nd ≤ 1048576) (hdd : d ≤ 1000) (w : World) (hf : Fr [] w0 w) (hnm : nl ≤ maxLen) :
    Calls Tryz.prog 62 #[.agg #[.int .i64 9, .int .i64 0, .string ⟨#[]⟩, .slice Ak nk ck, .slice Al nl cl, .slice Ad nd cd], .int .i64 ((d : Int) + 1), .bool st] w fun e w' => e = .returned (.bool (keysOk 9 keys && decide (nl ≤ 65535) && list.all (soundO d false))) ∧ Fr [] w w' := by
  subst hkn
  subst hst
  unfold maxLen at hnm
  obtain ⟨R, hR⟩ : ∃ R, R = (keysOk 9 keys && decide (nk ≤ 65535) && list.all (soundO d false)) := ⟨_, rfl⟩
  rw [← hR]
  have HR := hide hR
  clear hR
  have e1 : decide ((d : Int) + 1 < 1) = false := by simp; omega
  have e9 : decide ((1048576 : Int) < (nd : Int)) = false := by simp; omega
  have HEL := hide (fun (w' : World) (h : Fr [] w0 w') (k : Nat) (hk : k < nk) => ov_elem h hl hcs hll ho hk)
  have HKR := hide hkr
  have HKS := hide hks
  have HIH := hide IH
  have HLL := hide hll
  have HKL := hide (by have := hkr.len1; rw [List.length_map] at this; exact this : keys.length = nk)
  clear IH hl hcs hll ho hkr hks
  go_enter Tryz.func62, Tryz.ntmps62
  go_wp2
  obtain ⟨g, hg⟩ : ∃ g, g = w.heap.size := ⟨_, rfl⟩
  obtain ⟨W0, hW0⟩ : ∃ W0, W0 = w.alloc (.cells #[.int .i64 9, .int .i64 0, .string ⟨#[]⟩, .slice Ak nk ck, .slice Al nk cl, .slice Ad nd cd] 31) := ⟨_, rfl⟩
  have hB : Blk W0 g 31 #[.int .i64 9, .int .i64 0, .string ⟨#[]⟩, .slice Ak nk ck, .slice Al nk cl, .slice Ad nd cd] := by rw [hW0, hg]; exact Blk.new _ _ _
  have hf0 : Fr [] w W0 := by rw [hW0]; exact (by repeat (first | with_reducible exact Fr.refl _ _ | with_reducible assumption | with_reducible refine Fr.drewN ?_ _ | with_reducible refine Fr.drew ?_ | with_reducible refine Fr.alloc ?_ _ | ((with_reducible refine Fr.setCell ?_ ?_ _) <;> first | (apply Or.inl; simp; done) | (apply Or.inr; simp; done) | (apply Or.inr; simp; omega) | skip) | (refine Fr.then0 ?_ (by with_reducible assumption)) | (refine Fr.trans ?_ (by with_reducible assumption))))
  rw [← hW0, ← hg]
  clear hW0 hg
  go_loopw [12, 13] (fun i _ wr => ∃ k : Nat, k ≤ nk ∧ i = .int .i64 k ∧ Fr [] W0 wr ∧ Hid (keysOk 9 (keys.take k) = true)) (fun i _ _ => nk - (intOf i).toNat)
  case atStart => exact ⟨0, Nat.zero_le _, rfl, Fr.refl _ _, hide (by rw [List.take_zero]; rfl)⟩
  case round =>
    obtain ⟨k, hk, rfl, hfr, hrel⟩ := hrel
    have hBr := hB.keep hfr (by simp)
    obtain ⟨c0, c1, c2, c3, c4, c5, cz⟩ := hBr.c6
    by_cases hlt : k < nk
    · have hdk : decide ((k : Int) < (nk : Int)) = true := by simp; omega
      obtain ⟨ad, s, rfl, hsk, hsc⟩ := rd_str HKR.out ((hf.trans hf0).trans hfr) hlt
      have hsl : s.length ≤ 9223372036854775807 := HKS.out s (List.mem_of_getElem? hsk)
      have HN := hide (fun w => r18name_any s w hsl)
      cases hok : nameOk s
      · rw [hok] at HN
        have HF : Hid (R = false) := by rw [HR.out, keys_bad hsk (.inl hok)]; rfl
        clear hsk hok
        go_wp2_with (go_at_call 115; refine (HN.out _).mono ?_; rintro e w2 ⟨rfl, rfl⟩)
        go_ret
        exact ⟨ret_bool HF.out.symm, hf0.then0 hfr⟩
      · rw [hok] at HN
        by_cases hlen : (s == [76, 101, 110, 103, 116, 104]) = true
        · have hlen2 : s = lenW := by simpa [lenW] using hlen
          have HF : Hid (R = false) := by rw [HR.out, keys_bad hsk (.inr ⟨rfl, hlen2⟩)]; rfl
          clear hsk hok hlen2
          go_wp2_with (go_at_call 115; refine (HN.out _).mono ?_; rintro e w2 ⟨rfl, rfl⟩)
          go_ret
          exact ⟨ret_bool HF.out.symm, hf0.then0 hfr⟩
        have hlen : (s == [76, 101, 110, 103, 116, 104]) = false := by simpa using hlen
        have hlen2 : ¬ s = lenW := by simpa [lenW] using hlen
        have HL9 := hide hlen2
        clear hlen2
        have HSK := hide hsk
        have HOK := hide hok
        clear hsk hok
        go_wp2_with (go_at_call 115; refine (HN.out _).mono ?_; rintro e w2 ⟨rfl, rfl⟩)
        obtain ⟨wo, hwo⟩ : ∃ wo, wo = wr := ⟨_, rfl⟩
        rw [← hwo] at hfr c0 c1 c2 c3 c4 c5 hsc hBr ⊢
        clear hwo
        go_loopw [13] (fun i wr => ∃ j : Nat, j ≤ k ∧ i = .int .i64 j ∧ Fr [] wo wr ∧ Hid (∀ x ∈ keys.take j, x ≠ s)) (fun i _ => k - (intOf i).toNat)
        case atStart => exact ⟨0, Nat.zero_le _, rfl, Fr.refl _ _, hide (by rw [List.take_zero]; simp)⟩
        case round =>
          obtain ⟨j, hj, rfl, hfr2, hrel2⟩ := hrel
          have hBr2 := hBr.keep hfr2 (by simp)
          obtain ⟨b0, b1, b2, b3, b4, b5, bz⟩ := hBr2.c6
          have hsc2 := hfr2.cell hsc (by simp)
          by_cases hjk : j < k
          · have hdj : decide ((j : Int) < (k : Int)) = true := by simp; omega
            have hdj2 : decide (j < k) = true := by simpa using hjk
            obtain ⟨ad', x, hA', hxj, hxc⟩ := rd_str HKR.out (((hf.trans hf0).trans hfr).trans hfr2) (show j < nk by omega)
            obtain rfl : ad = ad' := by injection hA'
            cases hxs : (x == s)
            · have hne : x ≠ s := by simpa using hxs
              have HF : Hid (∀ y ∈ keys.take (j + 1), y ≠ s) := by
                have h1 := hrel2.out
                obtain ⟨hjl, he⟩ := List.getElem?_eq_some_iff.1 hxj
                rw [List.take_succ_eq_append_getElem hjl, he]
                exact hide fun y hy => by
                  rcases List.mem_append.1 hy with hy | hy
                  · exact h1 y hy
                  · rw [List.mem_singleton.1 hy]; exact hne
              clear hne hxj
              go_wp2
              go_quiet (fail)
              go_wp2
              exact ⟨⟨j + 1, by omega, by go_num, hfr2.drewN _, HF⟩, by simp [intOf]; omega⟩
            · have heq : x = s := by simpa using hxs
              have HF : Hid (R = false) := by rw [HR.out, keys_dup hxj (by rw [heq]; exact HSK.out) hjk]; rfl
              clear heq hxj
              go_wp2
              go_quiet (fail)
              go_wp2
              go_ret
              exact ⟨ret_bool HF.out.symm, ((hf0.trans hfr).trans hfr2).drewN _⟩
          · have hdj : decide ((j : Int) < (k : Int)) = false := by simp; omega
            have hdj2 : decide (j < k) = false := by simpa using hjk
            have hjk' : Hid (j = k) := hide (by omega)
            have HF : Hid (keysOk 9 (keys.take (k + 1)) = true) := keys_step hrel.out HSK.out HOK.out (fun h => HL9.out h.2) (by have := hrel2.out; rw [hjk'.out] at this; exact this)
            go_wp2
            exact ⟨⟨k + 1, by omega, by go_num, hfr.trans hfr2, HF⟩, by simp [intOf]; omega⟩
    · have hdk : decide ((k : Int) < (nk : Int)) = false := by simp; omega
      have HK : Hid (keysOk 9 keys = true) := by
        have h1 := hrel.out
        rw [List.take_of_length_le (by rw [HKL.out]; omega)] at h1
        exact h1
      by_cases hbig : 65535 < nk
      · have e6 : decide ((65535 : Int) < (nk : Int)) = true := by simp; omega
        have HF : Hid (R = false) := by rw [HR.out, decide_eq_false (by omega)]; exact hide (by simp)
        go_wp2
        go_ret
        exact ⟨ret_bool HF.out.symm, hf0.then0 hfr⟩
      have e6 : decide ((65535 : Int) < (nk : Int)) = false := by simp; omega
      have HRR : Hid (R = list.all (soundO d false)) := by rw [HR.out, HK.out, decide_eq_true (by omega)]; exact hide (by simp)
      go_wp2
      obtain ⟨wo, hwo⟩ : ∃ wo, wo = wr := ⟨_, rfl⟩
      rw [← hwo] at hfr c0 c1 c2 c3 c4 c5 hBr ⊢
      clear hwo
      go_loopw [14] (fun i wr => ∃ k : Nat, k ≤ nk ∧ i = .int .i64 k ∧ Fr [] wo wr ∧ Hid ((list.take k).all (soundO d false) = true)) (fun i _ => nk - (intOf i).toNat)
      case atStart => exact ⟨0, Nat.zero_le _, rfl, Fr.refl _ _, by exact (rfl : ([] : List PObj).all (soundO d false) = true)⟩
      case round =>
        obtain ⟨k2, hk2, rfl, hfr2, hrel2⟩ := hrel
        have hBr2 := hBr.keep hfr2 (by simp)
        obtain ⟨b0, b1, b2, b3, b4, b5, bz⟩ := hBr2.c6
        by_cases hlt2 : k2 < nk
        · have hdk2 : decide ((k2 : Int) < (nk : Int)) = true := by simp; omega
          obtain ⟨ad, o0, o1, o2, o3, o4, o5, o, rfl, hN, hlk, hck, hov, a0, a1, a2, a3, a4, a5⟩ := HEL.out wr (((hf.trans hf0).trans hfr).trans hfr2) k2 hlt2
          have HC := hide (HIH.out false _ o hov)
          have HT := hide (all_take (p := soundO d false) hlk)
          have HBAD := hide (fun h => all_bad (p := soundO d false) hlk h)
          clear hlk hck hov hN
          cases hso : soundO d false o
          · rw [hso] at HC
            have HF : Hid (R = false) := by rw [HRR.out]; exact HBAD.out hso
            clear hso
            go_wp2_with (go_at_call 62; refine (HC.out wr (((hf.trans hf0).trans hfr).trans hfr2)).mono ?_; rintro e w2 ⟨rfl, hf2⟩)
            go_ret
            exact ⟨ret_bool HF.out.symm, ((hf0.trans hfr).trans hfr2).trans hf2⟩
          · have HF : Hid ((list.take (k2 + 1)).all (soundO d false) = true) := by rw [HT.out, hrel2.out, hso]; rfl
            rw [hso] at HC
            clear hso
            go_wp2_with (go_at_call 62; refine (HC.out wr (((hf.trans hf0).trans hfr).trans hfr2)).mono ?_; rintro e w2 ⟨rfl, hf2⟩)
            exact ⟨⟨k2 + 1, by omega, by go_num, hfr2.trans hf2, HF⟩, by simp [intOf]; omega⟩
        · have hdk2 : decide ((k2 : Int) < (nk : Int)) = false := by simp; omega
          have HF : Hid (R = true) := by
            have h1 := hrel2.out
            rw [List.take_of_length_le (by rw [HLL.out]; omega)] at h1
            rw [HRR.out, h1]; rfl
          go_wp2
          go_ret
          exact ⟨ret_bool HF.out.symm, (hf0.trans hfr).trans hfr2⟩
set_option maxRecDepth 100000 in
set_option maxHeartbeats 2000000 in
theorem sound_k9bad {x deep : Int} {st : Bool} {t : List UInt8} {Ak Al Ad : Option Addr} {nk ck nl cl nd cd : Nat} (w : World) (h : ¬ (1 ≤ deep ∧ x = 0 ∧ t = [] ∧ nk = nl ∧ st = true ∧ nd ≤ 1048576)) :
    Calls Tryz.prog 62 #[.agg #[.int .i64 9, .int .i64 x, .string ⟨t.toArray⟩, .slice Ak nk ck, .slice Al nl cl, .slice Ad nd cd], .int .i64 deep, .bool st] w fun e w' => e = .returned (.bool false) ∧ Fr [] w w' := by
  by_cases h1 : deep < 1
  · have e1 : decide (deep < 1) = true := by simpa using h1
    clear h
    go_enter Tryz.func62, Tryz.ntmps62
    go_wp2
    go_ret
    exact ⟨rfl, (by repeat (first | with_reducible exact Fr.refl _ _ | with_reducible assumption | with_reducible refine Fr.drewN ?_ _ | with_reducible refine Fr.drew ?_ | with_reducible refine Fr.alloc ?_ _ | ((with_reducible refine Fr.setCell ?_ ?_ _) <;> first | (apply Or.inl; simp; done) | (apply Or.inr; simp; done) | (apply Or.inr; simp; omega) | skip) | (refine Fr.then0 ?_ (by with_reducible assumption)) | (refine Fr.trans ?_ (by with_reducible assumption))))⟩
  have e1 : decide (deep < 1) = false := by simpa using h1
  by_cases h2 : ¬ x = 0
  · have e2 : (x == 0) = false := by simpa using h2
    clear h h2
    go_enter Tryz.func62, Tryz.ntmps62
    go_wp2
    go_ret
    exact ⟨rfl, (by repeat (first | with_reducible exact Fr.refl _ _ | with_reducible assumption | with_reducible refine Fr.drewN ?_ _ | with_reducible refine Fr.drew ?_ | with_reducible refine Fr.alloc ?_ _ | ((with_reducible refine Fr.setCell ?_ ?_ _) <;> first | (apply Or.inl; simp; done) | (apply Or.inr; simp; done) | (apply Or.inr; simp; omega) | skip) | (refine Fr.then0 ?_ (by with_reducible assumption)) | (refine Fr.trans ?_ (by with_reducible assumption))))⟩
  obtain rfl : x = 0 := Classical.not_not.1 h2
  by_cases h3 : ¬ t = []
  · have e3 : t.isEmpty = false := by cases t <;> simp_all
    clear h h3
    go_enter Tryz.func62, Tryz.ntmps62
    go_wp2
    go_ret
    exact ⟨rfl, (by repeat (first | with_reducible exact Fr.refl _ _ | with_reducible assumption | with_reducible refine Fr.drewN ?_ _ | with_reducible refine Fr.drew ?_ | with_reducible refine Fr.alloc ?_ _ | ((with_reducible refine Fr.setCell ?_ ?_ _) <;> first | (apply Or.inl; simp; done) | (apply Or.inr; simp; done) | (apply Or.inr; simp; omega) | skip) | (refine Fr.then0 ?_ (by with_reducible assumption)) | (refine Fr.trans ?_ (by with_reducible assumption))))⟩
  obtain rfl : t = [] := Classical.not_not.1 h3
  by_cases h4 : ¬ nk = nl
  · have e4 : ((nk : Int) != (nl : Int)) = true := by simp; omega
    have e4' : (nk != nl) = true := by simp; omega
    clear h h4
    go_enter Tryz.func62, Tryz.ntmps62
    go_wp2
    go_ret
    exact ⟨rfl, (by repeat (first | with_reducible exact Fr.refl _ _ | with_reducible assumption | with_reducible refine Fr.drewN ?_ _ | with_reducible refine Fr.drew ?_ | with_reducible refine Fr.alloc ?_ _ | ((with_reducible refine Fr.setCell ?_ ?_ _) <;> first | (apply Or.inl; simp; done) | (apply Or.inr; simp; done) | (apply Or.inr; simp; omega) | skip) | (refine Fr.then0 ?_ (by with_reducible assumption)) | (refine Fr.trans ?_ (by with_reducible assumption))))⟩
  obtain rfl : nk = nl := Classical.not_not.1 h4
  cases st
  · clear h
    go_enter Tryz.func62, Tryz.ntmps62
    go_wp2
    go_ret
    exact ⟨rfl, (by repeat (first | with_reducible exact Fr.refl _ _ | with_reducible assumption | with_reducible refine Fr.drewN ?_ _ | with_reducible refine Fr.drew ?_ | with_reducible refine Fr.alloc ?_ _ | ((with_reducible refine Fr.setCell ?_ ?_ _) <;> first | (apply Or.inl; simp; done) | (apply Or.inr; simp; done) | (apply Or.inr; simp; omega) | skip) | (refine Fr.then0 ?_ (by with_reducible assumption)) | (refine Fr.trans ?_ (by with_reducible assumption))))⟩
  have e5 : decide ((1048576 : Int) < (nd : Int)) = true := by simp at h ⊢; omega
  clear h
  go_enter Tryz.func62, Tryz.ntmps62
  go_wp2
  go_ret
  exact ⟨rfl, (by repeat (first | with_reducible exact Fr.refl _ _ | with_reducible assumption | with_reducible refine Fr.drewN ?_ _ | with_reducible refine Fr.drew ?_ | with_reducible refine Fr.alloc ?_ _ | ((with_reducible refine Fr.setCell ?_ ?_ _) <;> first | (apply Or.inl; simp; done) | (apply Or.inr; simp; done) | (apply Or.inr; simp; omega) | skip) | (refine Fr.then0 ?_ (by with_reducible assumption)) | (refine Fr.trans ?_ (by with_reducible assumption))))⟩
theorem isEmpty_len {α : Type} {l : List α} {n : Nat} (h : l.length = n) : l.isEmpty = decide (n = 0) := by
  cases l <;> simp at h <;> subst h <;> simp
theorem nil_len {α : Type} [DecidableEq α] {l : List α} {n : Nat} (h : l.length = n) : (l = []) = (n = 0) := by
  cases l <;> simp at h <;> subst h <;> simp
theorem sound_step {w0 : World} {N : Nat → Prop} (d : Nat) (IH : ∀ d', d = d' + 1 → SoundOK w0 N d') (hd : d ≤ 1000) : SoundOK w0 N d := by
  intro st cs o hov w hf
  cases hov with
  | mk kd n t Ak nk ck keys Al nl cl list css Ad nd cd data ht hk hks hck hcm hl hcl hlm hcs hll ho hdr hcd hdm =>
  rw [soundO_eq]
  have hkl : keys.length = nk := by have := hk.len1; rw [List.length_map] at this; exact this
  have hdl : data.length = nd := hdr.len
  have E1 := isEmpty_len hll
  have E2 := nil_len hkl
  have E3 := nil_len hdl
  unfold objS
  dsimp only
  by_cases k0 : kd = 0
  · refine (sound_k0 w k0).mono fun e w' h => ⟨by rw [h.1, if_pos k0]; exact ret_bool (by rw [Bool.eq_iff_iff]; simp only [E1, E2, E3, Bool.and_eq_true, decide_eq_true_eq]; constructor <;> (intro h; simp_all)), h.2⟩
  by_cases k1 : kd = 1
  · refine (sound_k1 w k1).mono fun e w' h => ⟨by rw [h.1, if_neg k0, if_pos k1]; exact ret_bool (by rw [Bool.eq_iff_iff]; simp only [E1, E2, E3, Bool.and_eq_true, decide_eq_true_eq]; constructor <;> (intro h; simp_all)), h.2⟩
  by_cases k23 : kd = 2 ∨ kd = 3
  · refine (sound_k23 w k23).mono fun e w' h => ⟨by rw [h.1, if_neg k0, if_neg k1, if_pos k23]; exact ret_bool (by rw [Bool.eq_iff_iff]; simp only [E1, E2, E3, Bool.and_eq_true, decide_eq_true_eq]; constructor <;> (intro h; simp_all)), h.2⟩
  by_cases k4 : kd = 4
  · refine (sound_k4 w k4 (by unfold maxLen at ht; omega)).mono fun e w' h => ⟨by rw [h.1, if_neg k0, if_neg k1, if_neg k23, if_pos k4]; exact ret_bool (by rw [Bool.eq_iff_iff]; simp only [E1, E2, E3, Bool.and_eq_true, decide_eq_true_eq]; constructor <;> (intro h; simp_all)), h.2⟩
  by_cases k5 : kd = 5
  · refine (sound_k5 w k5).mono fun e w' h => ⟨by rw [h.1, if_neg k0, if_neg k1, if_neg k23, if_neg k4, if_pos k5]; exact ret_bool (by rw [Bool.eq_iff_iff]; simp only [E1, E2, E3, Bool.and_eq_true, decide_eq_true_eq]; constructor <;> (intro h; simp_all)), h.2⟩
  by_cases k8 : kd = 8
  · refine (sound_k8 w k8).mono fun e w' h => ⟨by rw [h.1, if_neg k0, if_neg k1, if_neg k23, if_neg k4, if_neg k5, if_pos k8]; exact ret_bool (by rw [Bool.eq_iff_iff]; simp only [E1, E2, E3, Bool.and_eq_true, decide_eq_true_eq]; constructor <;> (intro h; simp_all)), h.2⟩
  rw [if_neg k0, if_neg k1, if_neg k23, if_neg k4, if_neg k5, if_neg k8]
  by_cases k6 : kd = 6
  · subst k6
    rw [if_pos rfl]
    by_cases hgood : 1 ≤ (d : Int) ∧ n = 0 ∧ t = [] ∧ nk = 0 ∧ nd = 0 ∧ nl ≤ 65535
    · obtain ⟨g1, g2, g3, g4, g5, g6⟩ := hgood
      obtain ⟨d', rfl⟩ : ∃ d', d = d' + 1 := ⟨d - 1, by omega⟩
      subst g2 g3 g4 g5
      refine (sound_k6 (st := st) (ck := ck) (cl := cl) (cd := cd) (Ak := Ak) (Ad := Ad) (IH d' rfl) hl hcs hll ho g6 (by omega) w hf).mono fun e w' h => ⟨by
        rw [h.1]
        refine ret_bool ?_
        have hke : keys = [] := List.eq_nil_of_length_eq_zero hkl
        have hde : data = [] := List.eq_nil_of_length_eq_zero hdl
        simp [subS, hke, hde, hll, g6], h.2⟩
    · refine (sound_k6bad w hgood).mono fun e w' h => ⟨by
        rw [h.1]
        refine ret_bool ?_
        symm
        rw [Bool.eq_false_iff]
        intro hc
        simp only [Bool.and_eq_true, decide_eq_true_eq, E2, E3, hll] at hc
        exact hgood ⟨by omega, hc.1.1.2.1, hc.1.1.2.2.1, hc.1.1.2.2.2.1, hc.1.1.2.2.2.2, hc.1.2⟩, h.2⟩
  rw [if_neg k6]
  by_cases k7 : kd = 7
  · subst k7
    rw [if_pos (.inl rfl)]
    by_cases hgood : 1 ≤ (d : Int) ∧ n = 0 ∧ t = [] ∧ nk = nl ∧ nd = 0
    · obtain ⟨g1, g2, g3, g4, g5⟩ := hgood
      obtain ⟨d', rfl⟩ : ∃ d', d = d' + 1 := ⟨d - 1, by omega⟩
      subst g2 g3
      refine (sound_k7 (st := st) (ck := ck) (cl := cl) (cd := cd) (Ad := Ad) (IH d' rfl) hk hks hl hcs hll ho g4 g5 (by omega) w hf (by omega)).mono fun e w' h => ⟨by
        rw [h.1]
        refine ret_bool ?_
        have hde : data = [] := List.eq_nil_of_length_eq_zero (by omega)
        simp [subS, hde, hll, hkl, g4], h.2⟩
    · refine (sound_k7bad w hgood).mono fun e w' h => ⟨by
        rw [h.1]
        refine ret_bool ?_
        symm
        rw [Bool.eq_false_iff]
        intro hc
        simp only [Bool.and_eq_true, decide_eq_true_eq, if_true, E3, hll, hkl] at hc
        exact hgood ⟨by omega, hc.1.1.1.1.2.1, hc.1.1.1.1.2.2.1, hc.1.1.1.1.2.2.2, hc.1.1.1.2⟩, h.2⟩
  by_cases k9 : kd = 9
  · subst k9
    rw [if_pos (.inr rfl)]
    by_cases hgood : 1 ≤ (d : Int) ∧ n = 0 ∧ t = [] ∧ nk = nl ∧ st = true ∧ nd ≤ 1048576
    · obtain ⟨g1, g2, g3, g4, g5, g6⟩ := hgood
      obtain ⟨d', rfl⟩ : ∃ d', d = d' + 1 := ⟨d - 1, by omega⟩
      subst g2 g3
      refine (sound_k9 (ck := ck) (cl := cl) (cd := cd) (Ad := Ad) (IH d' rfl) hk hks hl hcs hll ho g4 g5 g6 (by omega) w hf (by omega)).mono fun e w' h => ⟨by
        rw [h.1]
        refine ret_bool ?_
        simp [subS, hll, hkl, hdl, g4, g5, g6], h.2⟩
    · refine (sound_k9bad w hgood).mono fun e w' h => ⟨by
        rw [h.1]
        refine ret_bool ?_
        symm
        rw [Bool.eq_false_iff]
        intro hc
        simp only [Bool.and_eq_true, decide_eq_true_eq, show ¬ ((9 : Int) = 7) by decide, if_false, hll, hkl, hdl] at hc
        exact hgood ⟨by omega, hc.1.1.1.1.2.1, hc.1.1.1.1.2.2.1, hc.1.1.1.1.2.2.2, hc.1.1.1.2.1, hc.1.1.1.2.2⟩, h.2⟩
  rw [if_neg (by omega)]
  exact sound_none w (by simpa using k0) (by simpa using k1) (by simp; omega) (by simp; omega) (by simpa using k4) (by simpa using k5) (by simpa using k6) (by simpa using k7) (by simpa using k8) (by simpa using k9)
theorem sound_any (w0 : World) (N : Nat → Prop) : ∀ d, d ≤ 1000 → SoundOK w0 N d := by
  intro d
  induction d with
  | zero => exact fun hd => sound_step 0 (fun d' h => by omega) hd
  | succ d ih => exact fun hd => sound_step (d + 1) (fun d' h => by obtain rfl : d' = d := by omega
                                                                    exact ih (by omega)) hd
end Go.Proofs.YtdjhjfpeckndkaaGreatDoor
namespace Go.Proofs.YtdjhjfpeckndkaaGreatDoor
open Go.RowKit
set_option maxRecDepth 100000 in
set_option maxHeartbeats 4000000 in
theorem print_k7 {w0 : World} {N : Nat → Prop} {d : Nat} (IH : PrintOK w0 N d) {Ak Al Ad : Option Addr} {nk ck nl cl nd cd : Nat} {keys : List (List UInt8)} {list : List PObj} {css : List (List Value)} (hkr : Rd w0 N 1 Ak nk (keys.map strV)) (hl : Rd w0 N 6 Al nl css.flatten) (hcs : css.length = nl) (hll : list.length = nl)
    (ho : ∀ (i : Nat) cs o, css[i]? = some cs → list[i]? = some o → OV w0 N cs o) (hkn : nk = nl) (hnl : nl ≤ 65535) (hs : ∀ o ∈ list, soundO d false o = true) (hkl : ∀ s ∈ keys, s.length ≤ 127) (hlen : (pairsT keys (list.map (printO d))).length ≤ 1073741819) (w : World) (hf : Fr [] w0 w) :
    Calls Tryz.prog 22 #[.agg #[.int .i64 7, .int .i64 0, .string ⟨#[]⟩, .slice Ak nk ck, .slice Al nl cl, .slice Ad nd cd]] w fun e w' => e = .returned (.string ⟨([60, 60] ++ pairsT keys (list.map (printO d)) ++ [32, 62, 62]).toArray⟩) ∧ Fr [] w w' := by
  subst hkn
  obtain ⟨R, hR⟩ : ∃ R, R = [60, 60] ++ pairsT keys (list.map (printO d)) ++ [32, 62, 62] := ⟨_, rfl⟩
  rw [← hR]
  have HR := hide hR
  clear hR
  have HEL := hide (fun (w' : World) (h : Fr [] w0 w') (k : Nat) (hk : k < nk) => ov_elem h hl hcs hll ho hk)
  have HKR := hide hkr
  have HKN := hide (by have := hkr.len1; rw [List.length_map] at this; rw [List.length_map, this, hll] : keys.length = (list.map (printO d)).length)
  have HKK := hide (by have := hkr.len1; rw [List.length_map] at this; exact this : keys.length = nk)
  have HIH := hide IH
  have HLL := hide hll
  have HS := hide hs
  have HLEN := hide hlen
  have HKL := hide hkl
  clear IH hl hcs hll ho hs hlen hkr hkl
  go_enter Tryz.func22, Tryz.ntmps22
  go_wp2
  obtain ⟨g, hg⟩ : ∃ g, g = w.heap.size := ⟨_, rfl⟩
  obtain ⟨W0, hW0⟩ : ∃ W0, W0 = w.alloc (.cells #[.int .i64 7, .int .i64 0, .string ⟨#[]⟩, .slice Ak nk ck, .slice Al nk cl, .slice Ad nd cd] 31) := ⟨_, rfl⟩
  have hB : Blk W0 g 31 #[.int .i64 7, .int .i64 0, .string ⟨#[]⟩, .slice Ak nk ck, .slice Al nk cl, .slice Ad nd cd] := by rw [hW0, hg]; exact Blk.new _ _ _
  have hf0 : Fr [] w W0 := by rw [hW0]; exact (by repeat (first | with_reducible exact Fr.refl _ _ | with_reducible assumption | with_reducible refine Fr.drewN ?_ _ | with_reducible refine Fr.drew ?_ | with_reducible refine Fr.alloc ?_ _ | ((with_reducible refine Fr.setCell ?_ ?_ _) <;> first | (apply Or.inl; simp; done) | (apply Or.inr; simp; done) | (apply Or.inr; simp; omega) | skip) | (refine Fr.then0 ?_ (by with_reducible assumption)) | (refine Fr.trans ?_ (by with_reducible assumption))))
  rw [← hW0, ← hg]
  clear hW0 hg
  go_loopw [6, 5] (fun i s wr => ∃ (k : Nat) (t : List UInt8), k ≤ nk ∧ i = .int .i64 k ∧ s = .string ⟨t.toArray⟩ ∧ t.length ≤ 1073741821 ∧ Fr [] W0 wr ∧ Hid (t = [60, 60] ++ pairsT (keys.take k) ((list.map (printO d)).take k))) (fun i _ _ => nk - (intOf i).toNat)
  case atStart => exact ⟨0, [60, 60], Nat.zero_le _, rfl, rfl, by simp, Fr.refl _ _, hide (by simp [pairsT])⟩
  case round =>
    obtain ⟨k, t, hk, rfl, rfl, htl, hfr, hrel⟩ := hrel
    have hBr := hB.keep hfr (by simp)
    obtain ⟨c0, c1, c2, c3, c4, c5, cz⟩ := hBr.c6
    by_cases hlt : k < nk
    · have hdk : decide ((k : Int) < (nk : Int)) = true := by simp; omega
      obtain ⟨ad, o0, o1, o2, o3, o4, o5, o, rfl, hN, hlk, hck, hov, a0, a1, a2, a3, a4, a5⟩ := HEL.out wr ((hf.trans hf0).trans hfr) k hlt
      obtain ⟨adk, s, rfl, hsk, hsc⟩ := rd_str HKR.out ((hf.trans hf0).trans hfr) hlt
      have hmap : (list.map (printO d))[k]? = some (printO d o) := by rw [List.getElem?_map, hlk]; rfl
      have hst := pairs_step HKN.out hsk hmap
      have hpre := pairs_prefix keys (list.map (printO d)) HKN.out (k + 1)
      have hsl : s.length ≤ 127 := HKL.out s (List.mem_of_getElem? hsk)
      have hlo : t.length + (nameT s).length + (printO d o).length + 2 ≤ 1073741821 := by
        have h1 := HLEN.out
        have h2 := congrArg List.length hst
        have h3 := congrArg List.length hrel.out
        simp only [List.length_append, List.length_cons, List.length_nil] at h2 h3
        omega
      have HC := hide (fun W (h : Fr [] w0 W) => HIH.out _ o hov (HS.out o (List.mem_of_getElem? hlk)) (by omega) W h)
      have HN := hide (fun W => r18Name_any s W (by omega))
      clear hlk hck hov hN hmap hpre hsk hsl
      generalize printO d o = po at *
      generalize nameT s = ns at *
      have HF : Hid (t ++ [32] ++ ns ++ [32] ++ po = [60, 60] ++ pairsT (keys.take (k + 1)) ((list.map (printO d)).take (k + 1))) := by rw [hst, hrel.out]; exact hide (by simp)
      clear hst
      have HE := hide (by rw [show (⟨#[32]⟩ : ByteArray) = ⟨[32].toArray⟩ from rfl, cat_str, cat_str, cat_str, cat_str] : (⟨t.toArray⟩ : ByteArray) ++ ⟨#[32]⟩ ++ ⟨ns.toArray⟩ ++ ⟨#[32]⟩ ++ ⟨po.toArray⟩ = ⟨(t ++ [32] ++ ns ++ [32] ++ po).toArray⟩)
      obtain ⟨wo, hwo⟩ : ∃ wo, wo = wr := ⟨_, rfl⟩
      rw [← hwo] at hfr c3 c4 hsc a0 a1 a2 a3 a4 a5 ⊢
      have hk0 : ∀ W, Fr [] wo W → W.cell? ⟨g, 3, none⟩ = some (.slice (some adk) nk ck) ∧ W.cell? ⟨g, 4, none⟩ = some (.slice (some ad) nk cl) ∧ W.cell? (adk.add k) = some (.string ⟨s.toArray⟩) ∧ W.cell? (ad.add (k * 6)) = some o0 ∧ W.cell? ⟨(ad.add (k * 6)).block, (ad.add (k * 6)).off + 1, none⟩ = some o1 ∧
          W.cell? ⟨(ad.add (k * 6)).block, (ad.add (k * 6)).off + 2, none⟩ = some o2 ∧ W.cell? ⟨(ad.add (k * 6)).block, (ad.add (k * 6)).off + 3, none⟩ = some o3 ∧ W.cell? ⟨(ad.add (k * 6)).block, (ad.add (k * 6)).off + 4, none⟩ = some o4 ∧ W.cell? ⟨(ad.add (k * 6)).block, (ad.add (k * 6)).off + 5, none⟩ = some o5 ∧ Fr [] wo W := fun W h =>
        ⟨h.cell c3 (by simp), h.cell c4 (by simp), h.cell hsc (by simp), h.cell a0 (by simp), h.cell a1 (by simp), h.cell a2 (by simp), h.cell a3 (by simp), h.cell a4 (by simp), h.cell a5 (by simp), h⟩
      have HK0 := hide hk0
      have HC2 := hide (fun W (h : Fr [] wo W) => HC.out W (((hf.trans hf0).trans hfr).trans h))
      have HFR := hide hfr
      clear hwo hk0 hBr cz c0 c1 c2 c5 hfr HC
      have hc1 : ¬9223372036854775807 < t.length + 1 := by omega
      have hc2 : ¬9223372036854775807 < t.length + 1 + ns.length := by omega
      have hc3 : ¬9223372036854775807 < t.length + 1 + ns.length + 1 := by omega
      have hc4 : ¬9223372036854775807 < t.length + 1 + ns.length + 1 + po.length := by omega
      go_wp2
      go_region_held3 (fun w' => w'.cell? ⟨g, 3, none⟩ = some (.slice (some adk) nk ck) ∧ w'.cell? ⟨g, 4, none⟩ = some (.slice (some ad) nk cl) ∧ w'.cell? (adk.add k) = some (.string ⟨s.toArray⟩) ∧ w'.cell? (ad.add (k * 6)) = some o0 ∧ w'.cell? ⟨(ad.add (k * 6)).block, (ad.add (k * 6)).off + 1, none⟩ = some o1 ∧
          w'.cell? ⟨(ad.add (k * 6)).block, (ad.add (k * 6)).off + 2, none⟩ = some o2 ∧ w'.cell? ⟨(ad.add (k * 6)).block, (ad.add (k * 6)).off + 3, none⟩ = some o3 ∧ w'.cell? ⟨(ad.add (k * 6)).block, (ad.add (k * 6)).off + 4, none⟩ = some o4 ∧ w'.cell? ⟨(ad.add (k * 6)).block, (ad.add (k * 6)).off + 5, none⟩ = some o5 ∧ Fr [] wo w')
        ((exact HK0.out _ (by repeat (first | with_reducible exact Fr.refl _ _ | with_reducible assumption | with_reducible refine Fr.drewN ?_ _ | with_reducible refine Fr.drew ?_ | with_reducible refine Fr.alloc ?_ _ | ((with_reducible refine Fr.setCell ?_ ?_ _) <;> first | (apply Or.inl; simp; done) | (apply Or.inr; simp; done) | (apply Or.inr; simp; omega) | skip) | (refine Fr.then0 ?_ (by with_reducible assumption)) | (refine Fr.trans ?_ (by with_reducible assumption))))))
        (first
          | (go_simp; go_at_call 64; refine (HN.out _).mono ?_; rintro e w1 ⟨rfl, hf1⟩)
          | (go_simp; go_at_call 22; refine (HC2.out _ (by repeat (first | with_reducible exact Fr.refl _ _ | with_reducible assumption | with_reducible refine Fr.drewN ?_ _ | with_reducible refine Fr.drew ?_ | with_reducible refine Fr.alloc ?_ _ | ((with_reducible refine Fr.setCell ?_ ?_ _) <;> first | (apply Or.inl; simp; done) | (apply Or.inr; simp; done) | (apply Or.inr; simp; omega) | skip) | (refine Fr.then0 ?_ (by with_reducible assumption)) | (refine Fr.trans ?_ (by with_reducible assumption))))).mono ?_; rintro e w2 ⟨rfl, hf2⟩))
      all_goals
        go_wp2
        exact ⟨⟨k + 1, t ++ [32] ++ ns ++ [32] ++ po, by omega, by go_num, congrArg Value.string HE.out, by simp; omega, HFR.out.trans (by repeat (first | with_reducible exact Fr.refl _ _ | with_reducible assumption | with_reducible refine Fr.drewN ?_ _ | with_reducible refine Fr.drew ?_ | with_reducible refine Fr.alloc ?_ _ | ((with_reducible refine Fr.setCell ?_ ?_ _) <;> first | (apply Or.inl; simp; done) | (apply Or.inr; simp; done) | (apply Or.inr; simp; omega) | skip) | (refine Fr.then0 ?_ (by with_reducible assumption)) | (refine Fr.trans ?_ (by with_reducible assumption)))), HF⟩, by simp [intOf]; omega⟩
    · have hdk : decide ((k : Int) < (nk : Int)) = false := by simp; omega
      have HF : Hid (t ++ [32, 62, 62] = R) := by
        rw [hrel.out, HR.out, List.take_of_length_le (by rw [HKK.out]; omega), List.take_of_length_le (by rw [List.length_map, HLL.out]; omega)]; rfl
      have HE := hide (cat_str t [32, 62, 62])
      go_wp2
      go_ret
      exact ⟨by rw [← HF.out]; exact congrArg (fun x => Ending.returned (.string x)) HE.out, hf0.then0 hfr⟩
theorem print_step {w0 : World} {N : Nat → Prop} (d : Nat) (IH : ∀ d', d = d' + 1 → PrintOK w0 N d') : PrintOK w0 N d := by
  intro cs o hov hs hlen w hf
  cases hov with
  | mk kd n t Ak nk ck keys Al nl cl list css Ad nd cd data ht hk hks hck hcm hl hcl hlm hcs hll ho hdr hcd hdm =>
  rw [soundO_eq] at hs
  rw [printO_eq] at hlen ⊢
  have hs' := hs
  unfold objS at hs
  unfold objT at hlen ⊢
  dsimp only at hs hlen ⊢
  by_cases k0 : kd = 0
  · subst k0
    simp only [if_true, Bool.and_eq_true, decide_eq_true_eq] at hs hlen ⊢
    obtain ⟨⟨⟨rfl, rfl, _⟩, _⟩, _⟩ := hs
    exact print_k0 w
  rw [if_neg k0] at hs hlen ⊢
  by_cases k1 : kd = 1
  · subst k1
    simp only [if_true, Bool.and_eq_true, decide_eq_true_eq] at hs hlen ⊢
    obtain ⟨⟨⟨hn, rfl, _⟩, _⟩, _⟩ := hs
    by_cases h1 : n = 1
    · rw [if_pos h1]; exact print_k1t w (by simpa using h1)
    · rw [if_neg h1]; exact print_k1f w (by simpa using h1)
  rw [if_neg k1] at hs hlen ⊢
  by_cases k2 : kd = 2
  · subst k2
    simp only [true_or, if_true, Bool.and_eq_true, decide_eq_true_eq] at hs hlen ⊢
    obtain ⟨⟨⟨hfx, rfl, _⟩, _⟩, _⟩ := hs
    exact print_k2 w hfx
  rw [if_neg k2] at hlen ⊢
  by_cases k3 : kd = 3
  · subst k3
    simp only [or_true, if_true, Bool.and_eq_true, decide_eq_true_eq] at hs hlen ⊢
    obtain ⟨⟨⟨hfx, rfl, _⟩, _⟩, _⟩ := hs
    exact print_k3 w
  rw [if_neg (by omega)] at hs
  rw [if_neg k3] at hlen ⊢
  by_cases k4 : kd = 4
  · subst k4
    simp only [if_true, Bool.and_eq_true, decide_eq_true_eq] at hs hlen ⊢
    obtain ⟨⟨⟨⟨rfl, hok⟩, _⟩, _⟩, _⟩ := hs
    refine print_k4 w ?_
    unfold nameOk at hok
    simp only [Bool.and_eq_true, decide_eq_true_eq] at hok
    omega
  rw [if_neg k4] at hs hlen ⊢
  by_cases k5 : kd = 5
  · subst k5
    simp only [if_true, Bool.and_eq_true, decide_eq_true_eq] at hs hlen ⊢
    obtain ⟨⟨⟨rfl, hl5, _⟩, _⟩, _⟩ := hs
    exact print_k5 w (by omega)
  rw [if_neg k5] at hs hlen ⊢
  by_cases k8 : kd = 8
  · subst k8
    simp only [if_true, Bool.and_eq_true, decide_eq_true_eq] at hs hlen ⊢
    obtain ⟨⟨⟨hn1, hn2, rfl, _⟩, _⟩, _⟩ := hs
    exact print_k8 w (by unfold fitsI; simp; omega)
  rw [if_neg k8] at hs hlen ⊢
  by_cases k6 : kd = 6
  · subst k6
    obtain ⟨hb, rfl, rfl, rfl, rfl, hl6, hall⟩ := sound6 hs'
    obtain ⟨d', rfl⟩ : ∃ d', d = d' + 1 := ⟨d - 1, by have := of_decide_eq_true hb; omega⟩
    rw [if_pos rfl] at hlen ⊢
    simp only [List.length_append, List.length_cons, List.length_nil] at hlen
    have hlen : (joinT (list.map (printO d'))).length + 1 + 1 ≤ 1073741824 := by
      have e : subT (d' + 1) = printO d' := rfl
      rw [e] at hlen
      omega
    exact print_k6 (IH d' rfl) hl hcs hll ho (by omega) hall (Nat.le_of_succ_le_succ (Nat.le_of_succ_le_succ hlen)) w hf
  rw [if_neg k6] at hs hlen ⊢
  by_cases k7 : kd = 7
  · subst k7
    obtain ⟨hb, rfl, rfl, hkl, rfl, hn7, hnd, hl7, hall⟩ := sound7 hs'
    obtain ⟨d', rfl⟩ : ∃ d', d = d' + 1 := ⟨d - 1, by have := of_decide_eq_true hb; omega⟩
    rw [if_pos rfl] at hlen ⊢
    simp only [List.length_append, List.length_cons, List.length_nil] at hlen
    have hk7 : keys.length = nk := by have := hk.len1; rw [List.length_map] at this; exact this
    refine print_k7 (IH d' rfl) hk hl hcs hll ho (by omega) (by omega) hall (fun s hs => ?_) (show (pairsT keys (list.map (printO d'))).length ≤ 1073741819 from ?_) w hf
    · have := hn7 s hs
      unfold nameOk at this
      simp only [Bool.and_eq_true, decide_eq_true_eq] at this
      omega
    · have e : subT (d' + 1) = printO d' := rfl
      rw [e] at hlen
      omega
  exfalso
  by_cases k9 : kd = 9
  · subst k9; simp at hs
  · rw [if_neg (by omega)] at hs; cases hs
theorem print_any (w0 : World) (N : Nat → Prop) : ∀ d, PrintOK w0 N d := by
  intro d
  induction d with
  | zero => exact print_step 0 (fun d' h => by omega)
  | succ d ih => exact print_step (d + 1) (fun d' h => by obtain rfl : d' = d := by omega
                                                          exact ih)
end Go.Proofs.YtdjhjfpeckndkaaGreatDoor
