/- Contracts over objects in memory: law 19's light. -/
/- Contracts: the reference's sound, at objects without lists. -/
import Derived.Test.YtdjhjfpeckndkaaGreatDoorBkOVal
import Derived.Test.YtdjhjfpeckndkaaGreatDoorBkR18N
set_option linter.unusedVariables false
set_option linter.unusedSimpArgs false
namespace Go.Proofs.YtdjhjfpeckndkaaGreatDoor
open Go.RowKit
/-- An element of an object's list, in memory. -/
theorem ov_elem {w w' : World} (hf : Fr [] w w') {N : Nat → Prop} {Al : Option Addr} {nl : Nat} {list : List PObj} {css : List (List Value)} (hl : Rd w N 6 Al nl css.flatten) (hcs : css.length = nl) (hll : list.length = nl)
    (ho : ∀ (i : Nat) cs o, css[i]? = some cs → list[i]? = some o → OV w N cs o) {k : Nat} (hk : k < nl) :
    ∃ (ad : Addr) (o0 o1 o2 o3 o4 o5 : Value) (o : PObj), Al = some ad ∧ N ad.block ∧ list[k]? = some o ∧ css[k]? = some [o0, o1, o2, o3, o4, o5] ∧ OV w N [o0, o1, o2, o3, o4, o5] o ∧
      (w'.cell? (ad.add (k * 6)) = some o0 ∧ w'.cell? ⟨(ad.add (k * 6)).block, (ad.add (k * 6)).off + 1, none⟩ = some o1 ∧ w'.cell? ⟨(ad.add (k * 6)).block, (ad.add (k * 6)).off + 2, none⟩ = some o2 ∧
        w'.cell? ⟨(ad.add (k * 6)).block, (ad.add (k * 6)).off + 3, none⟩ = some o3 ∧ w'.cell? ⟨(ad.add (k * 6)).block, (ad.add (k * 6)).off + 4, none⟩ = some o4 ∧ w'.cell? ⟨(ad.add (k * 6)).block, (ad.add (k * 6)).off + 5, none⟩ = some o5) := by
  have h6 : ∀ cs ∈ css, cs.length = 6 := by
    intro cs hm
    obtain ⟨i, hi, rfl⟩ := List.getElem_of_mem hm
    exact (ho i _ _ (List.getElem?_eq_getElem hi) (List.getElem?_eq_getElem (by omega))).len
  have hkc : k < css.length := by omega
  have hkl : k < list.length := by omega
  have hov := ho k _ _ (List.getElem?_eq_getElem hkc) (List.getElem?_eq_getElem hkl)
  obtain ⟨ad, hA, hN, hc⟩ := hl.2 (by omega)
  have hlen := hov.len
  have hget := List.getElem?_eq_getElem hkc
  generalize css[k] = cs at *
  match cs, hlen with
  | [o0, o1, o2, o3, o4, o5], _ =>
    have hc' : ∀ j u, [o0, o1, o2, o3, o4, o5][j]? = some u → w'.cell? ((ad.add (k * 6)).add j) = some u := fun j u hu => by
      rw [add_of_add]
      exact hf.cell (hc _ u (flatten_get 6 css h6 k j _ u hget hu)) (by simp)
    have hadd : ∀ j, 0 < j → (ad.add (k * 6)).add j = ⟨(ad.add (k * 6)).block, (ad.add (k * 6)).off + j, none⟩ := fun j hj => by
      generalize ad.add (k * 6) = ae
      unfold Addr.add
      rw [if_neg (by omega)]
    refine ⟨ad, o0, o1, o2, o3, o4, o5, _, hA, hN, List.getElem?_eq_getElem hkl, hget, hov, ?_, ?_, ?_, ?_, ?_, ?_⟩
    · have := hc' 0 o0 rfl
      rwa [show (ad.add (k * 6)).add 0 = ad.add (k * 6) by unfold Addr.add; simp] at this
    · have := hc' 1 o1 rfl; rwa [hadd 1 (by omega)] at this
    · have := hc' 2 o2 rfl; rwa [hadd 2 (by omega)] at this
    · have := hc' 3 o3 rfl; rwa [hadd 3 (by omega)] at this
    · have := hc' 4 o4 rfl; rwa [hadd 4 (by omega)] at this
    · have := hc' 5 o5 rfl; rwa [hadd 5 (by omega)] at this
def RetB (w : World) (e : Ending) (w' : World) : Prop := (∃ b, e = .returned (.bool b)) ∧ Fr [] w w'
set_option maxRecDepth 100000 in
set_option maxHeartbeats 1000000 in
theorem light_any {N : Nat → Prop} {w0 : World} {cs : List Value} {o : PObj} (hov : OV w0 N cs o) : ∀ (deep : Int) (w : World), Fr [] w0 w → deep ≤ 1000 → -1 ≤ deep →
    Calls Tryz.prog 20 #[.agg cs.toArray, .int .i64 deep] w (RetB w) := by
  induction hov with
  | mk kd n t Ak nk ck keys Al nl cl list css Ad nd cd data ht hk hks hck hcm hl hcl hlm hcs hll ho hd hcd hdm ih =>
    intro deep w hf hd1 hd2
    by_cases h1 : deep < 0
    · have e1 : decide (deep < 0) = true := by simpa using h1
      go_enter Tryz.func20, Tryz.ntmps20
      go_wp2
      go_ret
      exact ⟨⟨_, rfl⟩, (by repeat (first | with_reducible exact Fr.refl _ _ | with_reducible assumption | with_reducible refine Fr.drewN ?_ _ | with_reducible refine Fr.drew ?_ | with_reducible refine Fr.alloc ?_ _ | ((with_reducible refine Fr.setCell ?_ ?_ _) <;> first | (apply Or.inl; simp; done) | (apply Or.inr; simp; done) | (apply Or.inr; simp; omega) | skip) | (refine Fr.then0 ?_ (by with_reducible assumption)) | (refine Fr.trans ?_ (by with_reducible assumption))))⟩
    have e1 : decide (deep < 0) = false := by simpa using h1
    by_cases h2 : (300 : Int) < (nl : Int)
    · have e2 : decide ((300 : Int) < (nl : Int)) = true := by simpa using h2
      go_enter Tryz.func20, Tryz.ntmps20
      go_wp2
      go_ret
      exact ⟨⟨_, rfl⟩, (by repeat (first | with_reducible exact Fr.refl _ _ | with_reducible assumption | with_reducible refine Fr.drewN ?_ _ | with_reducible refine Fr.drew ?_ | with_reducible refine Fr.alloc ?_ _ | ((with_reducible refine Fr.setCell ?_ ?_ _) <;> first | (apply Or.inl; simp; done) | (apply Or.inr; simp; done) | (apply Or.inr; simp; omega) | skip) | (refine Fr.then0 ?_ (by with_reducible assumption)) | (refine Fr.trans ?_ (by with_reducible assumption))))⟩
    have e2 : decide ((300 : Int) < (nl : Int)) = false := by simp at h2 ⊢; omega
    by_cases h3 : (300 : Int) < (nk : Int)
    · have e3 : decide ((300 : Int) < (nk : Int)) = true := by simpa using h3
      go_enter Tryz.func20, Tryz.ntmps20
      go_wp2
      go_ret
      exact ⟨⟨_, rfl⟩, (by repeat (first | with_reducible exact Fr.refl _ _ | with_reducible assumption | with_reducible refine Fr.drewN ?_ _ | with_reducible refine Fr.drew ?_ | with_reducible refine Fr.alloc ?_ _ | ((with_reducible refine Fr.setCell ?_ ?_ _) <;> first | (apply Or.inl; simp; done) | (apply Or.inr; simp; done) | (apply Or.inr; simp; omega) | skip) | (refine Fr.then0 ?_ (by with_reducible assumption)) | (refine Fr.trans ?_ (by with_reducible assumption))))⟩
    have e3 : decide ((300 : Int) < (nk : Int)) = false := by simp at h3 ⊢; omega
    by_cases h4 : (70000 : Int) < (t.length : Int)
    · have e4 : decide ((70000 : Int) < (t.length : Int)) = true := by simpa using h4
      go_enter Tryz.func20, Tryz.ntmps20
      go_wp2
      go_ret
      exact ⟨⟨_, rfl⟩, (by repeat (first | with_reducible exact Fr.refl _ _ | with_reducible assumption | with_reducible refine Fr.drewN ?_ _ | with_reducible refine Fr.drew ?_ | with_reducible refine Fr.alloc ?_ _ | ((with_reducible refine Fr.setCell ?_ ?_ _) <;> first | (apply Or.inl; simp; done) | (apply Or.inr; simp; done) | (apply Or.inr; simp; omega) | skip) | (refine Fr.then0 ?_ (by with_reducible assumption)) | (refine Fr.trans ?_ (by with_reducible assumption))))⟩
    have e4 : decide ((70000 : Int) < (t.length : Int)) = false := by simp at h4 ⊢; omega
    by_cases h5 : (5000 : Int) < (nd : Int)
    · have e5 : decide ((5000 : Int) < (nd : Int)) = true := by simpa using h5
      go_enter Tryz.func20, Tryz.ntmps20
      go_wp2
      go_ret
      exact ⟨⟨_, rfl⟩, (by repeat (first | with_reducible exact Fr.refl _ _ | with_reducible assumption | with_reducible refine Fr.drewN ?_ _ | with_reducible refine Fr.drew ?_ | with_reducible refine Fr.alloc ?_ _ | ((with_reducible refine Fr.setCell ?_ ?_ _) <;> first | (apply Or.inl; simp; done) | (apply Or.inr; simp; done) | (apply Or.inr; simp; omega) | skip) | (refine Fr.then0 ?_ (by with_reducible assumption)) | (refine Fr.trans ?_ (by with_reducible assumption))))⟩
    have e5 : decide ((5000 : Int) < (nd : Int)) = false := by simp at h5 ⊢; omega
    go_enter Tryz.func20, Tryz.ntmps20
    go_wp2
    have HIH := hide (fun (i : Nat) (cs : List Value) (o : PObj) (h1 : css[i]? = some cs) (h2 : list[i]? = some o) => ih i cs o h1 h2 (deep - 1))
    have HEL := hide (fun (w' : World) (h : Fr [] w0 w') (k : Nat) (hk : k < nl) => ov_elem h hl hcs hll ho hk)
    have hdw : IntKind.i64.wrap (deep - 1) = deep - 1 := IntWalk.i64_in _ (by omega)
    clear ih ho hl hcs hll hk hks hd
    obtain ⟨g, hg⟩ : ∃ g, g = w.heap.size := ⟨_, rfl⟩
    obtain ⟨W0, hW0⟩ : ∃ W0, W0 = w.alloc (.cells #[.int .i64 kd, .int .i64 n, strV t, .slice Ak nk ck, .slice Al nl cl, .slice Ad nd cd] 31) := ⟨_, rfl⟩
    have hB : Blk W0 g 31 #[.int .i64 kd, .int .i64 n, strV t, .slice Ak nk ck, .slice Al nl cl, .slice Ad nd cd] := by rw [hW0, hg]; exact Blk.new _ _ _
    have hf0 : Fr [] w W0 := by rw [hW0]; exact (by repeat (first | with_reducible exact Fr.refl _ _ | with_reducible assumption | with_reducible refine Fr.drewN ?_ _ | with_reducible refine Fr.drew ?_ | with_reducible refine Fr.alloc ?_ _ | ((with_reducible refine Fr.setCell ?_ ?_ _) <;> first | (apply Or.inl; simp; done) | (apply Or.inr; simp; done) | (apply Or.inr; simp; omega) | skip) | (refine Fr.then0 ?_ (by with_reducible assumption)) | (refine Fr.trans ?_ (by with_reducible assumption))))
    rw [← hW0, ← hg]
    clear hW0 hg
    go_loopw [5] (fun i wr => ∃ k : Nat, k ≤ nl ∧ i = .int .i64 k ∧ Fr [] W0 wr) (fun i _ => nl - (intOf i).toNat)
    case atStart => exact ⟨0, Nat.zero_le _, rfl, Fr.refl _ _⟩
    case round =>
      obtain ⟨k, hk, rfl, hfr⟩ := hrel
      have hBr := hB.keep hfr (by simp)
      obtain ⟨c0, c1, c2, c3, c4, c5, cz⟩ := hBr.c6
      by_cases hlt : k < nl
      · have hdk : decide ((k : Int) < (nl : Int)) = true := by simp; omega
        obtain ⟨ad, o0, o1, o2, o3, o4, o5, o, rfl, hN, hlk, hck, hov, a0, a1, a2, a3, a4, a5⟩ := HEL.out wr ((hf.trans hf0).trans hfr) k hlt
        have HC := hide (HIH.out k _ _ hck hlk)
        clear hlk hck hov hN
        go_wp2_with (go_at_call 20; refine (HC.out wr ((hf.trans hf0).trans hfr) (by omega) (by omega)).mono ?_; rintro e w2 ⟨⟨b, rfl⟩, hf2⟩)
        · go_ret
          exact ⟨⟨_, rfl⟩, (hf0.trans hfr).trans hf2⟩
        · exact ⟨⟨k + 1, by omega, by go_num, hfr.trans hf2⟩, by simp [intOf]; omega⟩
      · have hdk : decide ((k : Int) < (nl : Int)) = false := by simp; omega
        go_wp2
        go_ret
        exact ⟨⟨_, rfl⟩, hf0.then0 hfr⟩
end Go.Proofs.YtdjhjfpeckndkaaGreatDoor
namespace Go.Proofs.YtdjhjfpeckndkaaGreatDoor
open Go.RowKit
theorem fits01_any (n : Int) (w : World) : Calls Tryz.prog 46 #[.int .i64 n] w fun e w' => e = .returned (.bool (fitsI n)) ∧ w = w' := by
  go_enter Tryz.func46, Tryz.ntmps46
  go_wp2
  all_goals (go_ret; exact ⟨ret_bool (by unfold fitsI; rw [Bool.eq_iff_iff]; simp; omega), rfl⟩)
set_option maxRecDepth 100000 in
set_option maxHeartbeats 1000000 in
theorem sound_k0 {x kd deep : Int} {st : Bool} {t : List UInt8} {Ak Al Ad : Option Addr} {nk ck nl cl nd cd : Nat} (w : World) (h : kd = 0) :
    Calls Tryz.prog 62 #[.agg #[.int .i64 kd, .int .i64 x, .string ⟨t.toArray⟩, .slice Ak nk ck, .slice Al nl cl, .slice Ad nd cd], .int .i64 deep, .bool st] w fun e w' => e = .returned (.bool (decide (x = 0 ∧ t = [] ∧ nk = 0 ∧ nl = 0 ∧ nd = 0))) ∧ Fr [] w w' := by
  subst h
  go_enter Tryz.func62, Tryz.ntmps62
  go_wp2
  all_goals
    go_ret
    exact ⟨ret_bool (by rw [Bool.eq_iff_iff]; simp_all <;> omega), (by repeat (first | with_reducible exact Fr.refl _ _ | with_reducible assumption | with_reducible refine Fr.drewN ?_ _ | with_reducible refine Fr.drew ?_ | with_reducible refine Fr.alloc ?_ _ | ((with_reducible refine Fr.setCell ?_ ?_ _) <;> first | (apply Or.inl; simp; done) | (apply Or.inr; simp; done) | (apply Or.inr; simp; omega) | skip) | (refine Fr.then0 ?_ (by with_reducible assumption)) | (refine Fr.trans ?_ (by with_reducible assumption))))⟩
set_option maxRecDepth 100000 in
set_option maxHeartbeats 1000000 in
theorem sound_k1 {x kd deep : Int} {st : Bool} {t : List UInt8} {Ak Al Ad : Option Addr} {nk ck nl cl nd cd : Nat} (w : World) (h : kd = 1) :
    Calls Tryz.prog 62 #[.agg #[.int .i64 kd, .int .i64 x, .string ⟨t.toArray⟩, .slice Ak nk ck, .slice Al nl cl, .slice Ad nd cd], .int .i64 deep, .bool st] w fun e w' => e = .returned (.bool (decide ((x = 0 ∨ x = 1) ∧ t = [] ∧ nk = 0 ∧ nl = 0 ∧ nd = 0))) ∧ Fr [] w w' := by
  subst h
  go_enter Tryz.func62, Tryz.ntmps62
  go_wp2
  all_goals
    go_ret
    exact ⟨ret_bool (by rw [Bool.eq_iff_iff]; simp_all <;> omega), (by repeat (first | with_reducible exact Fr.refl _ _ | with_reducible assumption | with_reducible refine Fr.drewN ?_ _ | with_reducible refine Fr.drew ?_ | with_reducible refine Fr.alloc ?_ _ | ((with_reducible refine Fr.setCell ?_ ?_ _) <;> first | (apply Or.inl; simp; done) | (apply Or.inr; simp; done) | (apply Or.inr; simp; omega) | skip) | (refine Fr.then0 ?_ (by with_reducible assumption)) | (refine Fr.trans ?_ (by with_reducible assumption))))⟩
set_option maxRecDepth 100000 in
set_option maxHeartbeats 1000000 in
theorem sound_k23 {x kd deep : Int} {st : Bool} {t : List UInt8} {Ak Al Ad : Option Addr} {nk ck nl cl nd cd : Nat} (w : World) (h : kd = 2 ∨ kd = 3) :
    Calls Tryz.prog 62 #[.agg #[.int .i64 kd, .int .i64 x, .string ⟨t.toArray⟩, .slice Ak nk ck, .slice Al nl cl, .slice Ad nd cd], .int .i64 deep, .bool st] w fun e w' => e = .returned (.bool (fitsI x && decide (t = [] ∧ nk = 0 ∧ nl = 0 ∧ nd = 0))) ∧ Fr [] w w' := by
  rcases h with rfl | rfl <;> cases hfx : fitsI x
  all_goals
    go_enter Tryz.func62, Tryz.ntmps62
    go_wp2_with (go_at_call 46; refine (fits01_any x _).mono ?_; rw [hfx]; rintro e w' ⟨rfl, rfl⟩)
  all_goals
    go_ret
    exact ⟨ret_bool (by rw [Bool.eq_iff_iff]; simp_all <;> omega), (by repeat (first | with_reducible exact Fr.refl _ _ | with_reducible assumption | with_reducible refine Fr.drewN ?_ _ | with_reducible refine Fr.drew ?_ | with_reducible refine Fr.alloc ?_ _ | ((with_reducible refine Fr.setCell ?_ ?_ _) <;> first | (apply Or.inl; simp; done) | (apply Or.inr; simp; done) | (apply Or.inr; simp; omega) | skip) | (refine Fr.then0 ?_ (by with_reducible assumption)) | (refine Fr.trans ?_ (by with_reducible assumption))))⟩
set_option maxRecDepth 100000 in
set_option maxHeartbeats 1000000 in
theorem sound_k4 {x kd deep : Int} {st : Bool} {t : List UInt8} {Ak Al Ad : Option Addr} {nk ck nl cl nd cd : Nat} (w : World) (h : kd = 4) (hl : t.length ≤ 9223372036854775807) :
    Calls Tryz.prog 62 #[.agg #[.int .i64 kd, .int .i64 x, .string ⟨t.toArray⟩, .slice Ak nk ck, .slice Al nl cl, .slice Ad nd cd], .int .i64 deep, .bool st] w fun e w' => e = .returned (.bool (decide (x = 0) && nameOk t && decide (nk = 0 ∧ nl = 0 ∧ nd = 0))) ∧ Fr [] w w' := by
  subst h
  have HN := hide (fun w => r18name_any t w hl)
  cases hok : nameOk t
  all_goals
    rw [hok] at HN
    clear hl
    go_enter Tryz.func62, Tryz.ntmps62
    go_wp2_with (go_at_call 115; refine (HN.out _).mono ?_; rintro e w' ⟨rfl, rfl⟩)
  all_goals
    go_ret
    exact ⟨ret_bool (by rw [Bool.eq_iff_iff]; simp_all <;> omega), (by repeat (first | with_reducible exact Fr.refl _ _ | with_reducible assumption | with_reducible refine Fr.drewN ?_ _ | with_reducible refine Fr.drew ?_ | with_reducible refine Fr.alloc ?_ _ | ((with_reducible refine Fr.setCell ?_ ?_ _) <;> first | (apply Or.inl; simp; done) | (apply Or.inr; simp; done) | (apply Or.inr; simp; omega) | skip) | (refine Fr.then0 ?_ (by with_reducible assumption)) | (refine Fr.trans ?_ (by with_reducible assumption))))⟩
set_option maxRecDepth 100000 in
set_option maxHeartbeats 1000000 in
theorem sound_k5 {x kd deep : Int} {st : Bool} {t : List UInt8} {Ak Al Ad : Option Addr} {nk ck nl cl nd cd : Nat} (w : World) (h : kd = 5) :
    Calls Tryz.prog 62 #[.agg #[.int .i64 kd, .int .i64 x, .string ⟨t.toArray⟩, .slice Ak nk ck, .slice Al nl cl, .slice Ad nd cd], .int .i64 deep, .bool st] w fun e w' => e = .returned (.bool (decide (x = 0 ∧ t.length ≤ 65535 ∧ nk = 0 ∧ nl = 0 ∧ nd = 0))) ∧ Fr [] w w' := by
  subst h
  go_enter Tryz.func62, Tryz.ntmps62
  go_wp2
  all_goals
    go_ret
    exact ⟨ret_bool (by rw [Bool.eq_iff_iff]; simp_all <;> omega), (by repeat (first | with_reducible exact Fr.refl _ _ | with_reducible assumption | with_reducible refine Fr.drewN ?_ _ | with_reducible refine Fr.drew ?_ | with_reducible refine Fr.alloc ?_ _ | ((with_reducible refine Fr.setCell ?_ ?_ _) <;> first | (apply Or.inl; simp; done) | (apply Or.inr; simp; done) | (apply Or.inr; simp; omega) | skip) | (refine Fr.then0 ?_ (by with_reducible assumption)) | (refine Fr.trans ?_ (by with_reducible assumption))))⟩
set_option maxRecDepth 100000 in
set_option maxHeartbeats 1000000 in
theorem sound_k8 {x kd deep : Int} {st : Bool} {t : List UInt8} {Ak Al Ad : Option Addr} {nk ck nl cl nd cd : Nat} (w : World) (h : kd = 8) :
    Calls Tryz.prog 62 #[.agg #[.int .i64 kd, .int .i64 x, .string ⟨t.toArray⟩, .slice Ak nk ck, .slice Al nl cl, .slice Ad nd cd], .int .i64 deep, .bool st] w fun e w' => e = .returned (.bool (decide (1 ≤ x ∧ x ≤ 4096 ∧ t = [] ∧ nk = 0 ∧ nl = 0 ∧ nd = 0))) ∧ Fr [] w w' := by
  subst h
  go_enter Tryz.func62, Tryz.ntmps62
  go_wp2
  all_goals
    go_ret
    exact ⟨ret_bool (by rw [Bool.eq_iff_iff]; simp_all <;> omega), (by repeat (first | with_reducible exact Fr.refl _ _ | with_reducible assumption | with_reducible refine Fr.drewN ?_ _ | with_reducible refine Fr.drew ?_ | with_reducible refine Fr.alloc ?_ _ | ((with_reducible refine Fr.setCell ?_ ?_ _) <;> first | (apply Or.inl; simp; done) | (apply Or.inr; simp; done) | (apply Or.inr; simp; omega) | skip) | (refine Fr.then0 ?_ (by with_reducible assumption)) | (refine Fr.trans ?_ (by with_reducible assumption))))⟩
set_option maxRecDepth 100000 in
set_option maxHeartbeats 1000000 in
theorem sound_none {x kd deep : Int} {st : Bool} {t : List UInt8} {Ak Al Ad : Option Addr} {nk ck nl cl nd cd : Nat} (w : World) (h0 : (kd == 0) = false) (h1 : (kd == 1) = false) (h2 : (kd == 2) = false) (h3 : (kd == 3) = false) (h4 : (kd == 4) = false) (h5 : (kd == 5) = false) (h6 : (kd == 6) = false) (h7 : (kd == 7) = false) (h8 : (kd == 8) = false) (h9 : (kd == 9) = false) :
    Calls Tryz.prog 62 #[.agg #[.int .i64 kd, .int .i64 x, .string ⟨t.toArray⟩, .slice Ak nk ck, .slice Al nl cl, .slice Ad nd cd], .int .i64 deep, .bool st] w fun e w' => e = .returned (.bool (false)) ∧ Fr [] w w' := by
  go_enter Tryz.func62, Tryz.ntmps62
  go_wp2
  all_goals
    go_ret
    exact ⟨ret_bool (by rfl), (by repeat (first | with_reducible exact Fr.refl _ _ | with_reducible assumption | with_reducible refine Fr.drewN ?_ _ | with_reducible refine Fr.drew ?_ | with_reducible refine Fr.alloc ?_ _ | ((with_reducible refine Fr.setCell ?_ ?_ _) <;> first | (apply Or.inl; simp; done) | (apply Or.inr; simp; done) | (apply Or.inr; simp; omega) | skip) | (refine Fr.then0 ?_ (by with_reducible assumption)) | (refine Fr.trans ?_ (by with_reducible assumption))))⟩
end Go.Proofs.YtdjhjfpeckndkaaGreatDoor
