/- Contracts: the reference's sound, at lists. -/
/- Contracts: the reference's sound, at names and objects. -/
import Derived.Test.YtdjhjfpeckndkaaGreatDoorBkLightA
set_option linter.unusedVariables false
set_option linter.unusedSimpArgs false
namespace Go.Proofs.YtdjhjfpeckndkaaGreatDoor
open Go.RowKit
/-- sound, so deep. -/
def SoundOK (w0 : World) (N : Nat → Prop) (d : Nat) : Prop := ∀ (st : Bool) (cs : List Value) (o : PObj), OV w0 N cs o → ∀ w, Fr [] w0 w →
  Calls Tryz.prog 62 #[.agg cs.toArray, .int .i64 d, .bool st] w fun e w' => e = .returned (.bool (soundO d st o)) ∧ Fr [] w w'
theorem all_take {α : Type} {p : α → Bool} {l : List α} {k : Nat} {x : α} (h : l[k]? = some x) : (l.take (k + 1)).all p = ((l.take k).all p && p x) := by
  obtain ⟨hk, he⟩ := List.getElem?_eq_some_iff.1 h
  rw [List.take_succ_eq_append_getElem hk, he, List.all_append]; simp
theorem all_bad {α : Type} {p : α → Bool} {l : List α} {k : Nat} {x : α} (h : l[k]? = some x) (hp : p x = false) : l.all p = false := by
  cases ha : l.all p
  · rfl
  · rw [List.all_eq_true] at ha
    have := ha x (List.mem_of_getElem? h)
    rw [hp] at this; cases this
set_option maxRecDepth 100000 in
set_option maxHeartbeats 1000000 in
theorem sound_k6bad {x deep : Int} {st : Bool} {t : List UInt8} {Ak Al Ad : Option Addr} {nk ck nl cl nd cd : Nat} (w : World) (h : ¬ (1 ≤ deep ∧ x = 0 ∧ t = [] ∧ nk = 0 ∧ nd = 0 ∧ nl ≤ 65535)) :
    Calls Tryz.prog 62 #[.agg #[.int .i64 6, .int .i64 x, .string ⟨t.toArray⟩, .slice Ak nk ck, .slice Al nl cl, .slice Ad nd cd], .int .i64 deep, .bool st] w fun e w' => e = .returned (.bool false) ∧ Fr [] w w' := by
  by_cases h1 : deep < 1
  · have e1 : decide (deep < 1) = true := by simpa using h1
    clear h
    go_enter Tryz.func62, Tryz.ntmps62
    go_wp2
    go_ret
    exact ⟨rfl, (by repeat (first | with_reducible exact Fr.refl _ _ | with_reducible assumption | with_reducible refine Fr.drewN ?_ _ | with_reducible refine Fr.drew ?_ | with_reducible refine Fr.alloc ?_ _ | ((with_reducible refine Fr.setCell ?_ ?_ _) <;> first | (apply Or.inl; simp; done) | (apply Or.inr; simp; done) | (apply Or.inr; simp; omega) | skip) | (refine Fr.then0 ?_ (by with_reducible assumption)) | (refine Fr.trans ?_ (by with_reducible assumption))))⟩
  have e1 : decide (deep < 1) = false := by simpa using h1
  by_cases h2 : ¬ x = 0
  · have e2 : (x == 0) = false := by simpa using h2
    clear h h2
    go_enter Tryz.func62, Tryz.ntmps62
    go_wp2
    go_ret
    exact ⟨rfl, (by repeat (first | with_reducible exact Fr.refl _ _ | with_reducible assumption | with_reducible refine Fr.drewN ?_ _ | with_reducible refine Fr.drew ?_ | with_reducible refine Fr.alloc ?_ _ | ((with_reducible refine Fr.setCell ?_ ?_ _) <;> first | (apply Or.inl; simp; done) | (apply Or.inr; simp; done) | (apply Or.inr; simp; omega) | skip) | (refine Fr.then0 ?_ (by with_reducible assumption)) | (refine Fr.trans ?_ (by with_reducible assumption))))⟩
  obtain rfl : x = 0 := Classical.not_not.1 h2
  by_cases h3 : ¬ t = []
  · have e3 : t.isEmpty = false := by cases t <;> simp_all
    clear h h3
    go_enter Tryz.func62, Tryz.ntmps62
    go_wp2
    go_ret
    exact ⟨rfl, (by repeat (first | with_reducible exact Fr.refl _ _ | with_reducible assumption | with_reducible refine Fr.drewN ?_ _ | with_reducible refine Fr.drew ?_ | with_reducible refine Fr.alloc ?_ _ | ((with_reducible refine Fr.setCell ?_ ?_ _) <;> first | (apply Or.inl; simp; done) | (apply Or.inr; simp; done) | (apply Or.inr; simp; omega) | skip) | (refine Fr.then0 ?_ (by with_reducible assumption)) | (refine Fr.trans ?_ (by with_reducible assumption))))⟩
  obtain rfl : t = [] := Classical.not_not.1 h3
  by_cases h4 : ¬ nk = 0
  · have e4 : ((nk : Int) == 0) = false := by simp; omega
    clear h h4
    go_enter Tryz.func62, Tryz.ntmps62
    go_wp2
    go_ret
    exact ⟨rfl, (by repeat (first | with_reducible exact Fr.refl _ _ | with_reducible assumption | with_reducible refine Fr.drewN ?_ _ | with_reducible refine Fr.drew ?_ | with_reducible refine Fr.alloc ?_ _ | ((with_reducible refine Fr.setCell ?_ ?_ _) <;> first | (apply Or.inl; simp; done) | (apply Or.inr; simp; done) | (apply Or.inr; simp; omega) | skip) | (refine Fr.then0 ?_ (by with_reducible assumption)) | (refine Fr.trans ?_ (by with_reducible assumption))))⟩
  obtain rfl : nk = 0 := Classical.not_not.1 h4
  by_cases h5 : ¬ nd = 0
  · have e5 : ((nd : Int) == 0) = false := by simp; omega
    clear h h5
    go_enter Tryz.func62, Tryz.ntmps62
    go_wp2
    go_ret
    exact ⟨rfl, (by repeat (first | with_reducible exact Fr.refl _ _ | with_reducible assumption | with_reducible refine Fr.drewN ?_ _ | with_reducible refine Fr.drew ?_ | with_reducible refine Fr.alloc ?_ _ | ((with_reducible refine Fr.setCell ?_ ?_ _) <;> first | (apply Or.inl; simp; done) | (apply Or.inr; simp; done) | (apply Or.inr; simp; omega) | skip) | (refine Fr.then0 ?_ (by with_reducible assumption)) | (refine Fr.trans ?_ (by with_reducible assumption))))⟩
  obtain rfl : nd = 0 := Classical.not_not.1 h5
  have h6 : decide ((65535 : Int) < (nl : Int)) = true := by simp at h ⊢; omega
  clear h
  go_enter Tryz.func62, Tryz.ntmps62
  go_wp2
  go_ret
  exact ⟨rfl, (by repeat (first | with_reducible exact Fr.refl _ _ | with_reducible assumption | with_reducible refine Fr.drewN ?_ _ | with_reducible refine Fr.drew ?_ | with_reducible refine Fr.alloc ?_ _ | ((with_reducible refine Fr.setCell ?_ ?_ _) <;> first | (apply Or.inl; simp; done) | (apply Or.inr; simp; done) | (apply Or.inr; simp; omega) | skip) | (refine Fr.then0 ?_ (by with_reducible assumption)) | (refine Fr.trans ?_ (by with_reducible assumption))))⟩
set_option maxRecDepth 100000 in
set_option maxHeartbeats 1000000 in
theorem sound_k6 {w0 : World} {N : Nat → Prop} {d : Nat} (IH : SoundOK w0 N d) {st : Bool} {Ak Al Ad : Option Addr} {ck nl cl cd : Nat} {list : List PObj} {css : List (List Value)} (hl : Rd w0 N 6 Al nl css.flatten) (hcs : css.length = nl) (hll : list.length = nl)
    (ho : ∀ (i : Nat) cs o, css[i]? = some cs → list[i]? = some o → OV w0 N cs o) (hn : nl ≤ 65535) (hdd : d ≤ 1000) (w : World) (hf : Fr [] w0 w) :
    Calls Tryz.prog 62 #[.agg #[.int .i64 6, .int .i64 0, .string ⟨#[]⟩, .slice Ak 0 ck, .slice Al nl cl, .slice Ad 0 cd], .int .i64 ((d : Int) + 1), .bool st] w fun e w' => e = .returned (.bool (list.all (soundO d false))) ∧ Fr [] w w' := by
  obtain ⟨R, hR⟩ : ∃ R, R = list.all (soundO d false) := ⟨_, rfl⟩
  rw [← hR]
  have HR := hide hR
  clear hR
  have e1 : decide ((d : Int) + 1 < 1) = false := by simp; omega
  have e6 : decide ((65535 : Int) < (nl : Int)) = false := by simp; omega
  have HEL := hide (fun (w' : World) (h : Fr [] w0 w') (k : Nat) (hk : k < nl) => ov_elem h hl hcs hll ho hk)
  have HIH := hide IH
  have HLL := hide hll
  clear IH hl hcs hll ho
  go_enter Tryz.func62, Tryz.ntmps62
  go_wp2
  obtain ⟨g, hg⟩ : ∃ g, g = w.heap.size := ⟨_, rfl⟩
  obtain ⟨W0, hW0⟩ : ∃ W0, W0 = w.alloc (.cells #[.int .i64 6, .int .i64 0, .string ⟨#[]⟩, .slice Ak 0 ck, .slice Al nl cl, .slice Ad 0 cd] 31) := ⟨_, rfl⟩
  have hB : Blk W0 g 31 #[.int .i64 6, .int .i64 0, .string ⟨#[]⟩, .slice Ak 0 ck, .slice Al nl cl, .slice Ad 0 cd] := by rw [hW0, hg]; exact Blk.new _ _ _
  have hf0 : Fr [] w W0 := by rw [hW0]; exact (by repeat (first | with_reducible exact Fr.refl _ _ | with_reducible assumption | with_reducible refine Fr.drewN ?_ _ | with_reducible refine Fr.drew ?_ | with_reducible refine Fr.alloc ?_ _ | ((with_reducible refine Fr.setCell ?_ ?_ _) <;> first | (apply Or.inl; simp; done) | (apply Or.inr; simp; done) | (apply Or.inr; simp; omega) | skip) | (refine Fr.then0 ?_ (by with_reducible assumption)) | (refine Fr.trans ?_ (by with_reducible assumption))))
  rw [← hW0, ← hg]
  clear hW0 hg
  go_loopw [14] (fun i wr => ∃ k : Nat, k ≤ nl ∧ i = .int .i64 k ∧ Fr [] W0 wr ∧ Hid ((list.take k).all (soundO d false) = true)) (fun i _ => nl - (intOf i).toNat)
  case atStart => exact ⟨0, Nat.zero_le _, rfl, Fr.refl _ _, by exact (rfl : ([] : List PObj).all (soundO d false) = true)⟩
  case round =>
    obtain ⟨k, hk, rfl, hfr, hrel⟩ := hrel
    have hBr := hB.keep hfr (by simp)
    obtain ⟨c0, c1, c2, c3, c4, c5, cz⟩ := hBr.c6
    by_cases hlt : k < nl
    · have hdk : decide ((k : Int) < (nl : Int)) = true := by simp; omega
      obtain ⟨ad, o0, o1, o2, o3, o4, o5, o, rfl, hN, hlk, hck, hov, a0, a1, a2, a3, a4, a5⟩ := HEL.out wr ((hf.trans hf0).trans hfr) k hlt
      have HC := hide (HIH.out false _ o hov)
      have HT := hide (all_take (p := soundO d false) hlk)
      have HBAD := hide (fun h => all_bad (p := soundO d false) hlk h)
      clear hlk hck hov hN
      cases hso : soundO d false o
      · rw [hso] at HC
        have HF : Hid (R = false) := by rw [HR.out]; exact HBAD.out hso
        clear hso
        go_wp2_with (go_at_call 62; refine (HC.out wr ((hf.trans hf0).trans hfr)).mono ?_; rintro e w2 ⟨rfl, hf2⟩)
        go_ret
        exact ⟨ret_bool HF.out.symm, (hf0.trans hfr).trans hf2⟩
      · have HF : Hid ((list.take (k + 1)).all (soundO d false) = true) := by rw [HT.out, hrel.out, hso]; rfl
        rw [hso] at HC
        clear hso
        go_wp2_with (go_at_call 62; refine (HC.out wr ((hf.trans hf0).trans hfr)).mono ?_; rintro e w2 ⟨rfl, hf2⟩)
        exact ⟨⟨k + 1, by omega, by go_num, hfr.trans hf2, HF⟩, by simp [intOf]; omega⟩
    · have hdk : decide ((k : Int) < (nl : Int)) = false := by simp; omega
      have HF : Hid (R = true) := by
        have h1 := hrel.out
        rw [List.take_of_length_le (by rw [HLL.out]; omega)] at h1
        rw [HR.out, h1]; rfl
      go_wp2
      go_ret
      exact ⟨ret_bool HF.out.symm, hf0.then0 hfr⟩
end Go.Proofs.YtdjhjfpeckndkaaGreatDoor
namespace Go.Proofs.YtdjhjfpeckndkaaGreatDoor
open Go.RowKit
theorem keys_bad {kd : Int} {keys : List (List UInt8)} {k : Nat} {s : List UInt8} (h : keys[k]? = some s) (hb : nameOk s = false ∨ (kd = 9 ∧ s = lenW)) : keysOk kd keys = false := by
  unfold keysOk
  rw [all_bad h (by rcases hb with h1 | h1 <;> simp [h1])]
  rfl
theorem keys_dup {kd : Int} {keys : List (List UInt8)} {j k : Nat} {s : List UInt8} (h1 : keys[j]? = some s) (h2 : keys[k]? = some s) (hjk : j < k) : keysOk kd keys = false := by
  unfold keysOk
  have : ¬ keys.Nodup := by
    intro hn
    obtain ⟨a1, a2⟩ := List.getElem?_eq_some_iff.1 h1
    obtain ⟨b1, b2⟩ := List.getElem?_eq_some_iff.1 h2
    exact List.pairwise_iff_getElem.1 hn j k a1 b1 hjk (a2.trans b2.symm)
  rw [decide_eq_false this]
  simp
theorem keys_step {kd : Int} {keys : List (List UInt8)} {k : Nat} {s : List UInt8} (h : keysOk kd (keys.take k) = true) (hk : keys[k]? = some s) (h1 : nameOk s = true) (h2 : ¬ (kd = 9 ∧ s = lenW)) (h3 : ∀ x ∈ keys.take k, x ≠ s) : keysOk kd (keys.take (k + 1)) = true := by
  obtain ⟨hl, he⟩ := List.getElem?_eq_some_iff.1 hk
  unfold keysOk at h ⊢
  simp only [Bool.and_eq_true, decide_eq_true_eq] at h
  rw [all_take hk, h.1, h1, decide_eq_true h2, List.take_succ_eq_append_getElem hl, he]
  have : (keys.take k ++ [s]).Nodup := by
    rw [List.nodup_append]
    exact ⟨h.2, by simp, fun a ha b hb => by rw [List.mem_singleton.1 hb]; exact h3 a ha⟩
  rw [decide_eq_true this]; rfl
/-- A string among those in memory. -/
theorem rd_str {w w' : World} {N : Nat → Prop} {A : Option Addr} {n : Nat} {keys : List (List UInt8)} (hr : Rd w N 1 A n (keys.map strV)) (hf : Fr [] w w') {k : Nat} (hk : k < n) :
    ∃ ad s, A = some ad ∧ keys[k]? = some s ∧ w'.cell? (ad.add k) = some (.string ⟨s.toArray⟩) := by
  obtain ⟨ad, u, hA, hN, hu, hc⟩ := Rd.at_ (hr.keep0 hf) hk
  rw [List.getElem?_map] at hu
  cases hs : keys[k]? with
  | none => rw [hs] at hu; simp at hu
  | some s =>
    rw [hs] at hu
    simp at hu
    exact ⟨ad, s, hA, rfl, by rw [hc, ← hu]⟩
set_option maxRecDepth 100000 in
set_option maxHeartbeats 4000000 in
theorem sound_k7 {w0 : World} {N : Nat → Prop} {d : Nat} (IH : SoundOK w0 N d) {st : Bool} {Ak Al Ad : Option Addr} {nk ck nl cl nd cd : Nat} {keys : List (List UInt8)} {list : List PObj} {css : List (List Value)} (hkr : Rd w0 N 1 Ak nk (keys.map strV)) (hks : ∀ s ∈ keys, s.length ≤ maxLen) (hl : Rd w0 N 6 Al nl css.flatten) (hcs : css.length = nl) (hll : list.length = nl)
    (ho : ∀ (i : Nat) cs o, css[i]? = some cs → list[i]? = some o → OV w0 N cs o) (hkn : nk = nl) (hd0 : nd = 0) (hdd : d ≤ 1000) (w : World) (hf : Fr [] w0 w) (hnm : nl ≤ maxLen) :
    Calls Tryz.prog 62 #[.agg #[.int .i64 7, .int .i64 0, .string ⟨#[]⟩, .slice Ak nk ck, .slice Al nl cl, .slice Ad nd cd], .int .i64 ((d : Int) + 1), .bool st] w fun e w' => e = .returned (.bool (keysOk 7 keys && decide (nl ≤ 65535) && list.all (soundO d false))) ∧ Fr [] w w' := by
  subst hkn
  subst hd0
  unfold maxLen at hnm
  obtain ⟨R, hR⟩ : ∃ R, R = (keysOk 7 keys && decide (nk ≤ 65535) && list.all (soundO d false)) := ⟨_, rfl⟩
  rw [← hR]
  have HR := hide hR
  clear hR
  have e1 : decide ((d : Int) + 1 < 1) = false := by simp; omega
  have HEL := hide (fun (w' : World) (h : Fr [] w0 w') (k : Nat) (hk : k < nk) => ov_elem h hl hcs hll ho hk)
  have HKR := hide hkr
  have HKS := hide hks
  have HIH := hide IH
  have HLL := hide hll
  have HKL := hide (by have := hkr.len1; rw [List.length_map] at this; exact this : keys.length = nk)
  clear IH hl hcs hll ho hkr hks
  go_enter Tryz.func62, Tryz.ntmps62
  go_wp2
  obtain ⟨g, hg⟩ : ∃ g, g = w.heap.size := ⟨_, rfl⟩
  obtain ⟨W0, hW0⟩ : ∃ W0, W0 = w.alloc (.cells #[.int .i64 7, .int .i64 0, .string ⟨#[]⟩, .slice Ak nk ck, .slice Al nk cl, .slice Ad 0 cd] 31) := ⟨_, rfl⟩
  have hB : Blk W0 g 31 #[.int .i64 7, .int .i64 0, .string ⟨#[]⟩, .slice Ak nk ck, .slice Al nk cl, .slice Ad 0 cd] := by rw [hW0, hg]; exact Blk.new _ _ _
  have hf0 : Fr [] w W0 := by rw [hW0]; exact (by repeat (first | with_reducible exact Fr.refl _ _ | with_reducible assumption | with_reducible refine Fr.drewN ?_ _ | with_reducible refine Fr.drew ?_ | with_reducible refine Fr.alloc ?_ _ | ((with_reducible refine Fr.setCell ?_ ?_ _) <;> first | (apply Or.inl; simp; done) | (apply Or.inr; simp; done) | (apply Or.inr; simp; omega) | skip) | (refine Fr.then0 ?_ (by with_reducible assumption)) | (refine Fr.trans ?_ (by with_reducible assumption))))
  rw [← hW0, ← hg]
  clear hW0 hg
  go_loopw [12, 13] (fun i _ wr => ∃ k : Nat, k ≤ nk ∧ i = .int .i64 k ∧ Fr [] W0 wr ∧ Hid (keysOk 7 (keys.take k) = true)) (fun i _ _ => nk - (intOf i).toNat)
  case atStart => exact ⟨0, Nat.zero_le _, rfl, Fr.refl _ _, hide (by rw [List.take_zero]; rfl)⟩
  case round =>
    obtain ⟨k, hk, rfl, hfr, hrel⟩ := hrel
    have hBr := hB.keep hfr (by simp)
    obtain ⟨c0, c1, c2, c3, c4, c5, cz⟩ := hBr.c6
    by_cases hlt : k < nk
    · have hdk : decide ((k : Int) < (nk : Int)) = true := by simp; omega
      obtain ⟨ad, s, rfl, hsk, hsc⟩ := rd_str HKR.out ((hf.trans hf0).trans hfr) hlt
      have hsl : s.length ≤ 9223372036854775807 := HKS.out s (List.mem_of_getElem? hsk)
      have HN := hide (fun w => r18name_any s w hsl)
      cases hok : nameOk s
      · rw [hok] at HN
        have HF : Hid (R = false) := by rw [HR.out, keys_bad hsk (.inl hok)]; rfl
        clear hsk hok
        go_wp2_with (go_at_call 115; refine (HN.out _).mono ?_; rintro e w2 ⟨rfl, rfl⟩)
        go_ret
        exact ⟨ret_bool HF.out.symm, hf0.then0 hfr⟩
      · rw [hok] at HN
        have HSK := hide hsk
        have HOK := hide hok
        clear hsk hok
        go_wp2_with (go_at_call 115; refine (HN.out _).mono ?_; rintro e w2 ⟨rfl, rfl⟩)
        obtain ⟨wo, hwo⟩ : ∃ wo, wo = wr := ⟨_, rfl⟩
        rw [← hwo] at hfr c0 c1 c2 c3 c4 c5 hsc hBr ⊢
        clear hwo
        go_loopw [13] (fun i wr => ∃ j : Nat, j ≤ k ∧ i = .int .i64 j ∧ Fr [] wo wr ∧ Hid (∀ x ∈ keys.take j, x ≠ s)) (fun i _ => k - (intOf i).toNat)
        case atStart => exact ⟨0, Nat.zero_le _, rfl, Fr.refl _ _, hide (by rw [List.take_zero]; simp)⟩
        case round =>
          obtain ⟨j, hj, rfl, hfr2, hrel2⟩ := hrel
          have hBr2 := hBr.keep hfr2 (by simp)
          obtain ⟨b0, b1, b2, b3, b4, b5, bz⟩ := hBr2.c6
          have hsc2 := hfr2.cell hsc (by simp)
          by_cases hjk : j < k
          · have hdj : decide ((j : Int) < (k : Int)) = true := by simp; omega
            have hdj2 : decide (j < k) = true := by simpa using hjk
            obtain ⟨ad', x, hA', hxj, hxc⟩ := rd_str HKR.out (((hf.trans hf0).trans hfr).trans hfr2) (show j < nk by omega)
            obtain rfl : ad = ad' := by injection hA'
            cases hxs : (x == s)
            · have hne : x ≠ s := by simpa using hxs
              have HF : Hid (∀ y ∈ keys.take (j + 1), y ≠ s) := by
                have h1 := hrel2.out
                obtain ⟨hjl, he⟩ := List.getElem?_eq_some_iff.1 hxj
                rw [List.take_succ_eq_append_getElem hjl, he]
                exact hide fun y hy => by
                  rcases List.mem_append.1 hy with hy | hy
                  · exact h1 y hy
                  · rw [List.mem_singleton.1 hy]; exact hne
              clear hne hxj
              go_wp2
              go_quiet (fail)
              go_wp2
              exact ⟨⟨j + 1, by omega, by go_num, hfr2.drewN _, HF⟩, by simp [intOf]; omega⟩
            · have heq : x = s := by simpa using hxs
              have HF : Hid (R = false) := by rw [HR.out, keys_dup hxj (by rw [heq]; exact HSK.out) hjk]; rfl
              clear heq hxj
              go_wp2
              go_quiet (fail)
              go_wp2
              go_ret
              exact ⟨ret_bool HF.out.symm, ((hf0.trans hfr).trans hfr2).drewN _⟩
          · have hdj : decide ((j : Int) < (k : Int)) = false := by simp; omega
            have hdj2 : decide (j < k) = false := by simpa using hjk
            have hjk' : Hid (j = k) := hide (by omega)
            have HF : Hid (keysOk 7 (keys.take (k + 1)) = true) := keys_step hrel.out HSK.out HOK.out (fun h => absurd h.1 (by decide)) (by have := hrel2.out; rw [hjk'.out] at this; exact this)
            go_wp2
            exact ⟨⟨k + 1, by omega, by go_num, hfr.trans hfr2, HF⟩, by simp [intOf]; omega⟩
    · have hdk : decide ((k : Int) < (nk : Int)) = false := by simp; omega
      have HK : Hid (keysOk 7 keys = true) := by
        have h1 := hrel.out
        rw [List.take_of_length_le (by rw [HKL.out]; omega)] at h1
        exact h1
      by_cases hbig : 65535 < nk
      · have e6 : decide ((65535 : Int) < (nk : Int)) = true := by simp; omega
        have HF : Hid (R = false) := by rw [HR.out, decide_eq_false (by omega)]; exact hide (by simp)
        go_wp2
        go_ret
        exact ⟨ret_bool HF.out.symm, hf0.then0 hfr⟩
      have e6 : decide ((65535 : Int) < (nk : Int)) = false := by simp; omega
      have HRR : Hid (R = list.all (soundO d false)) := by rw [HR.out, HK.out, decide_eq_true (by omega)]; exact hide (by simp)
      go_wp2
      obtain ⟨wo, hwo⟩ : ∃ wo, wo = wr := ⟨_, rfl⟩
      rw [← hwo] at hfr c0 c1 c2 c3 c4 c5 hBr ⊢
      clear hwo
      go_loopw [14] (fun i wr => ∃ k : Nat, k ≤ nk ∧ i = .int .i64 k ∧ Fr [] wo wr ∧ Hid ((list.take k).all (soundO d false) = true)) (fun i _ => nk - (intOf i).toNat)
      case atStart => exact ⟨0, Nat.zero_le _, rfl, Fr.refl _ _, by exact (rfl : ([] : List PObj).all (soundO d false) = true)⟩
      case round =>
        obtain ⟨k2, hk2, rfl, hfr2, hrel2⟩ := hrel
        have hBr2 := hBr.keep hfr2 (by simp)
        obtain ⟨b0, b1, b2, b3, b4, b5, bz⟩ := hBr2.c6
        by_cases hlt2 : k2 < nk
        · have hdk2 : decide ((k2 : Int) < (nk : Int)) = true := by simp; omega
          obtain ⟨ad, o0, o1, o2, o3, o4, o5, o, rfl, hN, hlk, hck, hov, a0, a1, a2, a3, a4, a5⟩ := HEL.out wr (((hf.trans hf0).trans hfr).trans hfr2) k2 hlt2
          have HC := hide (HIH.out false _ o hov)
          have HT := hide (all_take (p := soundO d false) hlk)
          have HBAD := hide (fun h => all_bad (p := soundO d false) hlk h)
          clear hlk hck hov hN
          cases hso : soundO d false o
          · rw [hso] at HC
            have HF : Hid (R = false) := by rw [HRR.out]; exact HBAD.out hso
            clear hso
            go_wp2_with (go_at_call 62; refine (HC.out wr (((hf.trans hf0).trans hfr).trans hfr2)).mono ?_; rintro e w2 ⟨rfl, hf2⟩)
            go_ret
            exact ⟨ret_bool HF.out.symm, ((hf0.trans hfr).trans hfr2).trans hf2⟩
          · have HF : Hid ((list.take (k2 + 1)).all (soundO d false) = true) := by rw [HT.out, hrel2.out, hso]; rfl
            rw [hso] at HC
            clear hso
            go_wp2_with (go_at_call 62; refine (HC.out wr (((hf.trans hf0).trans hfr).trans hfr2)).mono ?_; rintro e w2 ⟨rfl, hf2⟩)
            exact ⟨⟨k2 + 1, by omega, by go_num, hfr2.trans hf2, HF⟩, by simp [intOf]; omega⟩
        · have hdk2 : decide ((k2 : Int) < (nk : Int)) = false := by simp; omega
          have HF : Hid (R = true) := by
            have h1 := hrel2.out
            rw [List.take_of_length_le (by rw [HLL.out]; omega)] at h1
            rw [HRR.out, h1]; rfl
          go_wp2
          go_ret
          exact ⟨ret_bool HF.out.symm, (hf0.trans hfr).trans hfr2⟩
set_option maxRecDepth 100000 in
set_option maxHeartbeats 2000000 in
theorem sound_k7bad {x deep : Int} {st : Bool} {t : List UInt8} {Ak Al Ad : Option Addr} {nk ck nl cl nd cd : Nat} (w : World) (h : ¬ (1 ≤ deep ∧ x = 0 ∧ t = [] ∧ nk = nl ∧ nd = 0)) :
    Calls Tryz.prog 62 #[.agg #[.int .i64 7, .int .i64 x, .string ⟨t.toArray⟩, .slice Ak nk ck, .slice Al nl cl, .slice Ad nd cd], .int .i64 deep, .bool st] w fun e w' => e = .returned (.bool false) ∧ Fr [] w w' := by
  by_cases h1 : deep < 1
  · have e1 : decide (deep < 1) = true := by simpa using h1
    clear h
    go_enter Tryz.func62, Tryz.ntmps62
    go_wp2
    go_ret
    exact ⟨rfl, (by repeat (first | with_reducible exact Fr.refl _ _ | with_reducible assumption | with_reducible refine Fr.drewN ?_ _ | with_reducible refine Fr.drew ?_ | with_reducible refine Fr.alloc ?_ _ | ((with_reducible refine Fr.setCell ?_ ?_ _) <;> first | (apply Or.inl; simp; done) | (apply Or.inr; simp; done) | (apply Or.inr; simp; omega) | skip) | (refine Fr.then0 ?_ (by with_reducible assumption)) | (refine Fr.trans ?_ (by with_reducible assumption))))⟩
  have e1 : decide (deep < 1) = false := by simpa using h1
  by_cases h2 : ¬ x = 0
  · have e2 : (x == 0) = false := by simpa using h2
    clear h h2
    go_enter Tryz.func62, Tryz.ntmps62
    go_wp2
    go_ret
    exact ⟨rfl, (by repeat (first | with_reducible exact Fr.refl _ _ | with_reducible assumption | with_reducible refine Fr.drewN ?_ _ | with_reducible refine Fr.drew ?_ | with_reducible refine Fr.alloc ?_ _ | ((with_reducible refine Fr.setCell ?_ ?_ _) <;> first | (apply Or.inl; simp; done) | (apply Or.inr; simp; done) | (apply Or.inr; simp; omega) | skip) | (refine Fr.then0 ?_ (by with_reducible assumption)) | (refine Fr.trans ?_ (by with_reducible assumption))))⟩
  obtain rfl : x = 0 := Classical.not_not.1 h2
  by_cases h3 : ¬ t = []
  · have e3 : t.isEmpty = false := by cases t <;> simp_all
    clear h h3
    go_enter Tryz.func62, Tryz.ntmps62
    go_wp2
    go_ret
    exact ⟨rfl, (by repeat (first | with_reducible exact Fr.refl _ _ | with_reducible assumption | with_reducible refine Fr.drewN ?_ _ | with_reducible refine Fr.drew ?_ | with_reducible refine Fr.alloc ?_ _ | ((with_reducible refine Fr.setCell ?_ ?_ _) <;> first | (apply Or.inl; simp; done) | (apply Or.inr; simp; done) | (apply Or.inr; simp; omega) | skip) | (refine Fr.then0 ?_ (by with_reducible assumption)) | (refine Fr.trans ?_ (by with_reducible assumption))))⟩
  obtain rfl : t = [] := Classical.not_not.1 h3
  by_cases h4 : ¬ nk = nl
  · have e4 : ((nk : Int) != (nl : Int)) = true := by simp; omega
    have e4' : (nk != nl) = true := by simp; omega
    clear h h4
    go_enter Tryz.func62, Tryz.ntmps62
    go_wp2
    go_ret
    exact ⟨rfl, (by repeat (first | with_reducible exact Fr.refl _ _ | with_reducible assumption | with_reducible refine Fr.drewN ?_ _ | with_reducible refine Fr.drew ?_ | with_reducible refine Fr.alloc ?_ _ | ((with_reducible refine Fr.setCell ?_ ?_ _) <;> first | (apply Or.inl; simp; done) | (apply Or.inr; simp; done) | (apply Or.inr; simp; omega) | skip) | (refine Fr.then0 ?_ (by with_reducible assumption)) | (refine Fr.trans ?_ (by with_reducible assumption))))⟩
  obtain rfl : nk = nl := Classical.not_not.1 h4
  have e5 : ((nd : Int) == 0) = false := by simp at h ⊢; omega
  clear h
  go_enter Tryz.func62, Tryz.ntmps62
  go_wp2
  go_ret
  exact ⟨rfl, (by repeat (first | with_reducible exact Fr.refl _ _ | with_reducible assumption | with_reducible refine Fr.drewN ?_ _ | with_reducible refine Fr.drew ?_ | with_reducible refine Fr.alloc ?_ _ | ((with_reducible refine Fr.setCell ?_ ?_ _) <;> first | (apply Or.inl; simp; done) | (apply Or.inr; simp; done) | (apply Or.inr; simp; omega) | skip) | (refine Fr.then0 ?_ (by with_reducible assumption)) | (refine Fr.trans ?_ (by with_reducible assumption))))⟩
end Go.Proofs.YtdjhjfpeckndkaaGreatDoor
