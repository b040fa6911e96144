/- Contracts: the reference's Print of objects. -/
import Derived.Test.YtdjhjfpeckndkaaGreatDoorBkR18V
import Derived.Test.YtdjhjfpeckndkaaGreatDoorBkLightA
set_option linter.unusedVariables false
set_option linter.unusedSimpArgs false
namespace Go.Proofs.YtdjhjfpeckndkaaGreatDoor
open Go.RowKit
theorem join_app (a b : List (List UInt8)) : joinT (a ++ b) = joinT a ++ (if a = [] then joinT b else tailT b) := by
  cases a with
  | nil => simp [joinT]
  | cons x a => simp [joinT, tailT]
theorem join_prefix (l : List (List UInt8)) (k : Nat) : (joinT (l.take k)).length ≤ (joinT l).length := by
  have h := join_app (l.take k) (l.drop k)
  rw [List.take_append_drop] at h
  rw [h, List.length_append]; omega
theorem join_step {l : List (List UInt8)} {k : Nat} {x : List UInt8} (h : l[k]? = some x) : joinT (l.take (k + 1)) = joinT (l.take k) ++ (if k = 0 then x else 32 :: x) := by
  rw [take_snoc h, join_app]
  have hl := (List.getElem?_eq_some_iff.1 h).1
  by_cases hk : k = 0
  · subst hk; simp [joinT, tailT]
  · rw [if_neg hk, if_neg (fun e => by have h1 := congrArg List.length e; rw [List.length_take, List.length_nil] at h1; omega)]
    simp [tailT]
theorem pairs_app : ∀ (a : List (List UInt8)) (b : List (List UInt8)) (c d : List (List UInt8)), a.length = b.length → pairsT (a ++ c) (b ++ d) = pairsT a b ++ pairsT c d
  | [], [], c, d, _ => by simp [pairsT]
  | x :: a, y :: b, c, d, h => by
    have := pairs_app a b c d (by simpa using h)
    simp [pairsT, this]
  | [], y :: b, _, _, h => by simp at h
  | x :: a, [], _, _, h => by simp at h
theorem pairs_prefix (ks l : List (List UInt8)) (h : ks.length = l.length) (k : Nat) : (pairsT (ks.take k) (l.take k)).length ≤ (pairsT ks l).length := by
  have h1 := pairs_app (ks.take k) (l.take k) (ks.drop k) (l.drop k) (by simp [h])
  rw [List.take_append_drop, List.take_append_drop] at h1
  rw [h1, List.length_append]; omega
theorem pairs_step {ks l : List (List UInt8)} {k : Nat} {s x : List UInt8} (hl : ks.length = l.length) (hs : ks[k]? = some s) (hx : l[k]? = some x) : pairsT (ks.take (k + 1)) (l.take (k + 1)) = pairsT (ks.take k) (l.take k) ++ (32 :: nameT s ++ 32 :: x) := by
  rw [take_snoc hs, take_snoc hx, pairs_app _ _ _ _ (by simp [hl])]
  simp [pairsT]
/-- Print, so deep. -/
def PrintOK (w0 : World) (N : Nat → Prop) (d : Nat) : Prop := ∀ (cs : List Value) (o : PObj), OV w0 N cs o → soundO d false o = true → (printO d o).length ≤ 1073741824 → ∀ w, Fr [] w0 w →
  Calls Tryz.prog 22 #[.agg cs.toArray] w fun e w' => e = .returned (.string ⟨(printO d o).toArray⟩) ∧ Fr [] w w'
set_option maxRecDepth 100000 in
set_option maxHeartbeats 1000000 in
theorem print_k0 {x : Int} {t : List UInt8} {Ak Al Ad : Option Addr} {nk ck nl cl nd cd : Nat} (w : World)  : Calls Tryz.prog 22 #[.agg #[.int .i64 0, .int .i64 x, .string ⟨t.toArray⟩, .slice Ak nk ck, .slice Al nl cl, .slice Ad nd cd]] w fun e w' => e = .returned (.string ⟨(nullW).toArray⟩) ∧ Fr [] w w' := by
  go_enter Tryz.func22, Tryz.ntmps22
  go_wp2
  go_ret
  exact ⟨rfl, (by repeat (first | with_reducible exact Fr.refl _ _ | with_reducible assumption | with_reducible refine Fr.drewN ?_ _ | with_reducible refine Fr.drew ?_ | with_reducible refine Fr.alloc ?_ _ | ((with_reducible refine Fr.setCell ?_ ?_ _) <;> first | (apply Or.inl; simp; done) | (apply Or.inr; simp; done) | (apply Or.inr; simp; omega) | skip) | (refine Fr.then0 ?_ (by with_reducible assumption)) | (refine Fr.trans ?_ (by with_reducible assumption))))⟩
set_option maxRecDepth 100000 in
set_option maxHeartbeats 1000000 in
theorem print_k1t {x : Int} {t : List UInt8} {Ak Al Ad : Option Addr} {nk ck nl cl nd cd : Nat} (w : World) (h : (x == 1) = true) : Calls Tryz.prog 22 #[.agg #[.int .i64 1, .int .i64 x, .string ⟨t.toArray⟩, .slice Ak nk ck, .slice Al nl cl, .slice Ad nd cd]] w fun e w' => e = .returned (.string ⟨(trueW).toArray⟩) ∧ Fr [] w w' := by
  go_enter Tryz.func22, Tryz.ntmps22
  go_wp2
  go_ret
  exact ⟨rfl, (by repeat (first | with_reducible exact Fr.refl _ _ | with_reducible assumption | with_reducible refine Fr.drewN ?_ _ | with_reducible refine Fr.drew ?_ | with_reducible refine Fr.alloc ?_ _ | ((with_reducible refine Fr.setCell ?_ ?_ _) <;> first | (apply Or.inl; simp; done) | (apply Or.inr; simp; done) | (apply Or.inr; simp; omega) | skip) | (refine Fr.then0 ?_ (by with_reducible assumption)) | (refine Fr.trans ?_ (by with_reducible assumption))))⟩
set_option maxRecDepth 100000 in
set_option maxHeartbeats 1000000 in
theorem print_k1f {x : Int} {t : List UInt8} {Ak Al Ad : Option Addr} {nk ck nl cl nd cd : Nat} (w : World) (h : (x == 1) = false) : Calls Tryz.prog 22 #[.agg #[.int .i64 1, .int .i64 x, .string ⟨t.toArray⟩, .slice Ak nk ck, .slice Al nl cl, .slice Ad nd cd]] w fun e w' => e = .returned (.string ⟨(falseW).toArray⟩) ∧ Fr [] w w' := by
  go_enter Tryz.func22, Tryz.ntmps22
  go_wp2
  go_ret
  exact ⟨rfl, (by repeat (first | with_reducible exact Fr.refl _ _ | with_reducible assumption | with_reducible refine Fr.drewN ?_ _ | with_reducible refine Fr.drew ?_ | with_reducible refine Fr.alloc ?_ _ | ((with_reducible refine Fr.setCell ?_ ?_ _) <;> first | (apply Or.inl; simp; done) | (apply Or.inr; simp; done) | (apply Or.inr; simp; omega) | skip) | (refine Fr.then0 ?_ (by with_reducible assumption)) | (refine Fr.trans ?_ (by with_reducible assumption))))⟩
set_option maxRecDepth 100000 in
set_option maxHeartbeats 1000000 in
theorem print_k2 {x : Int} {t : List UInt8} {Ak Al Ad : Option Addr} {nk ck nl cl nd cd : Nat} (w : World) (h : fitsI x = true) : Calls Tryz.prog 22 #[.agg #[.int .i64 2, .int .i64 x, .string ⟨t.toArray⟩, .slice Ak nk ck, .slice Al nl cl, .slice Ad nd cd]] w fun e w' => e = .returned (.string ⟨(decT x).toArray⟩) ∧ Fr [] w w' := by
  have hx : -4611686018427387904 ≤ x ∧ x ≤ 4611686018427387904 := by unfold fitsI at h; simp at h; omega
  have HD := hide (fun w => dec_any x w hx.1 hx.2)
  generalize decT x = R at *
  go_enter Tryz.func22, Tryz.ntmps22
  go_wp2_with (go_at_call 43; refine (HD.out _).mono ?_; rintro e w2 ⟨rfl, hf2⟩)
  go_ret
  exact ⟨rfl, Fr.trans (by repeat (first | with_reducible exact Fr.refl _ _ | with_reducible assumption | with_reducible refine Fr.drewN ?_ _ | with_reducible refine Fr.drew ?_ | with_reducible refine Fr.alloc ?_ _ | ((with_reducible refine Fr.setCell ?_ ?_ _) <;> first | (apply Or.inl; simp; done) | (apply Or.inr; simp; done) | (apply Or.inr; simp; omega) | skip) | (refine Fr.then0 ?_ (by with_reducible assumption)) | (refine Fr.trans ?_ (by with_reducible assumption)))) hf2⟩
set_option maxRecDepth 100000 in
set_option maxHeartbeats 1000000 in
theorem print_k3 {x : Int} {t : List UInt8} {Ak Al Ad : Option Addr} {nk ck nl cl nd cd : Nat} (w : World)  : Calls Tryz.prog 22 #[.agg #[.int .i64 3, .int .i64 x, .string ⟨t.toArray⟩, .slice Ak nk ck, .slice Al nl cl, .slice Ad nd cd]] w fun e w' => e = .returned (.string ⟨(realT x).toArray⟩) ∧ Fr [] w w' := by
  have HD := hide (fun w => printReal_any x w)
  generalize realT x = R at *
  go_enter Tryz.func22, Tryz.ntmps22
  go_wp2_with (go_at_call 63; refine (HD.out _).mono ?_; rintro e w2 ⟨rfl, hf2⟩)
  go_ret
  exact ⟨rfl, Fr.trans (by repeat (first | with_reducible exact Fr.refl _ _ | with_reducible assumption | with_reducible refine Fr.drewN ?_ _ | with_reducible refine Fr.drew ?_ | with_reducible refine Fr.alloc ?_ _ | ((with_reducible refine Fr.setCell ?_ ?_ _) <;> first | (apply Or.inl; simp; done) | (apply Or.inr; simp; done) | (apply Or.inr; simp; omega) | skip) | (refine Fr.then0 ?_ (by with_reducible assumption)) | (refine Fr.trans ?_ (by with_reducible assumption)))) hf2⟩
set_option maxRecDepth 100000 in
set_option maxHeartbeats 1000000 in
theorem print_k4 {x : Int} {t : List UInt8} {Ak Al Ad : Option Addr} {nk ck nl cl nd cd : Nat} (w : World) (h : t.length ≤ 1073741824) : Calls Tryz.prog 22 #[.agg #[.int .i64 4, .int .i64 x, .string ⟨t.toArray⟩, .slice Ak nk ck, .slice Al nl cl, .slice Ad nd cd]] w fun e w' => e = .returned (.string ⟨(nameT t).toArray⟩) ∧ Fr [] w w' := by
  have HD := hide (fun w => r18Name_any t w h)
  generalize nameT t = R at *
  go_enter Tryz.func22, Tryz.ntmps22
  go_wp2_with (go_at_call 64; refine (HD.out _).mono ?_; rintro e w2 ⟨rfl, hf2⟩)
  go_ret
  exact ⟨rfl, Fr.trans (by repeat (first | with_reducible exact Fr.refl _ _ | with_reducible assumption | with_reducible refine Fr.drewN ?_ _ | with_reducible refine Fr.drew ?_ | with_reducible refine Fr.alloc ?_ _ | ((with_reducible refine Fr.setCell ?_ ?_ _) <;> first | (apply Or.inl; simp; done) | (apply Or.inr; simp; done) | (apply Or.inr; simp; omega) | skip) | (refine Fr.then0 ?_ (by with_reducible assumption)) | (refine Fr.trans ?_ (by with_reducible assumption)))) hf2⟩
set_option maxRecDepth 100000 in
set_option maxHeartbeats 1000000 in
theorem print_k5 {x : Int} {t : List UInt8} {Ak Al Ad : Option Addr} {nk ck nl cl nd cd : Nat} (w : World) (h : t.length ≤ 1073741824) : Calls Tryz.prog 22 #[.agg #[.int .i64 5, .int .i64 x, .string ⟨t.toArray⟩, .slice Ak nk ck, .slice Al nl cl, .slice Ad nd cd]] w fun e w' => e = .returned (.string ⟨(textT t).toArray⟩) ∧ Fr [] w w' := by
  have HD := hide (fun w => r18Text_any t w h)
  generalize textT t = R at *
  go_enter Tryz.func22, Tryz.ntmps22
  go_wp2_with (go_at_call 65; refine (HD.out _).mono ?_; rintro e w2 ⟨rfl, hf2⟩)
  go_ret
  exact ⟨rfl, Fr.trans (by repeat (first | with_reducible exact Fr.refl _ _ | with_reducible assumption | with_reducible refine Fr.drewN ?_ _ | with_reducible refine Fr.drew ?_ | with_reducible refine Fr.alloc ?_ _ | ((with_reducible refine Fr.setCell ?_ ?_ _) <;> first | (apply Or.inl; simp; done) | (apply Or.inr; simp; done) | (apply Or.inr; simp; omega) | skip) | (refine Fr.then0 ?_ (by with_reducible assumption)) | (refine Fr.trans ?_ (by with_reducible assumption)))) hf2⟩
set_option maxRecDepth 100000 in
set_option maxHeartbeats 1000000 in
theorem print_k8 {x : Int} {t : List UInt8} {Ak Al Ad : Option Addr} {nk ck nl cl nd cd : Nat} (w : World) (h : fitsI x = true) : Calls Tryz.prog 22 #[.agg #[.int .i64 8, .int .i64 x, .string ⟨t.toArray⟩, .slice Ak nk ck, .slice Al nl cl, .slice Ad nd cd]] w fun e w' => e = .returned (.string ⟨(decT x ++ [32, 48, 32, 82]).toArray⟩) ∧ Fr [] w w' := by
  have hx : -4611686018427387904 ≤ x ∧ x ≤ 4611686018427387904 := by unfold fitsI at h; simp at h; omega
  have hl := decT_len x h
  have HD := hide (fun w => dec_any x w hx.1 hx.2)
  have HE := hide (cat_str (decT x) [32, 48, 32, 82])
  generalize decT x = R at *
  go_enter Tryz.func22, Tryz.ntmps22
  go_wp2_with (go_at_call 43; refine (HD.out _).mono ?_; rintro e w2 ⟨rfl, hf2⟩)
  go_ret
  exact ⟨congrArg (fun x => Ending.returned (.string x)) HE.out, Fr.trans (by repeat (first | with_reducible exact Fr.refl _ _ | with_reducible assumption | with_reducible refine Fr.drewN ?_ _ | with_reducible refine Fr.drew ?_ | with_reducible refine Fr.alloc ?_ _ | ((with_reducible refine Fr.setCell ?_ ?_ _) <;> first | (apply Or.inl; simp; done) | (apply Or.inr; simp; done) | (apply Or.inr; simp; omega) | skip) | (refine Fr.then0 ?_ (by with_reducible assumption)) | (refine Fr.trans ?_ (by with_reducible assumption)))) hf2⟩
set_option maxRecDepth 100000 in
set_option maxHeartbeats 2000000 in
theorem print_k6 {w0 : World} {N : Nat → Prop} {d : Nat} (IH : PrintOK w0 N d) {Ak Al Ad : Option Addr} {nk ck nl cl nd cd : Nat} {list : List PObj} {css : List (List Value)} (hl : Rd w0 N 6 Al nl css.flatten) (hcs : css.length = nl) (hll : list.length = nl)
    (ho : ∀ (i : Nat) cs o, css[i]? = some cs → list[i]? = some o → OV w0 N cs o) (hnl : nl ≤ 65535) (hs : ∀ o ∈ list, soundO d false o = true) (hlen : (joinT (list.map (printO d))).length ≤ 1073741822) (w : World) (hf : Fr [] w0 w) :
    Calls Tryz.prog 22 #[.agg #[.int .i64 6, .int .i64 0, .string ⟨#[]⟩, .slice Ak nk ck, .slice Al nl cl, .slice Ad nd cd]] w fun e w' => e = .returned (.string ⟨(91 :: joinT (list.map (printO d)) ++ [93]).toArray⟩) ∧ Fr [] w w' := by
  obtain ⟨R, hR⟩ : ∃ R, R = 91 :: joinT (list.map (printO d)) ++ [93] := ⟨_, rfl⟩
  rw [← hR]
  have HR := hide hR
  clear hR
  have HEL := hide (fun (w' : World) (h : Fr [] w0 w') (k : Nat) (hk : k < nl) => ov_elem h hl hcs hll ho hk)
  have HIH := hide IH
  have HLL := hide hll
  have HS := hide hs
  have HLEN := hide hlen
  clear IH hl hcs hll ho hs hlen
  go_enter Tryz.func22, Tryz.ntmps22
  go_wp2
  obtain ⟨g, hg⟩ : ∃ g, g = w.heap.size := ⟨_, rfl⟩
  obtain ⟨W0, hW0⟩ : ∃ W0, W0 = w.alloc (.cells #[.int .i64 6, .int .i64 0, .string ⟨#[]⟩, .slice Ak nk ck, .slice Al nl cl, .slice Ad nd cd] 31) := ⟨_, rfl⟩
  have hB : Blk W0 g 31 #[.int .i64 6, .int .i64 0, .string ⟨#[]⟩, .slice Ak nk ck, .slice Al nl cl, .slice Ad nd cd] := by rw [hW0, hg]; exact Blk.new _ _ _
  have hf0 : Fr [] w W0 := by rw [hW0]; exact (by repeat (first | with_reducible exact Fr.refl _ _ | with_reducible assumption | with_reducible refine Fr.drewN ?_ _ | with_reducible refine Fr.drew ?_ | with_reducible refine Fr.alloc ?_ _ | ((with_reducible refine Fr.setCell ?_ ?_ _) <;> first | (apply Or.inl; simp; done) | (apply Or.inr; simp; done) | (apply Or.inr; simp; omega) | skip) | (refine Fr.then0 ?_ (by with_reducible assumption)) | (refine Fr.trans ?_ (by with_reducible assumption))))
  rw [← hW0, ← hg]
  clear hW0 hg
  go_loopw [4, 3] (fun i s wr => ∃ (k : Nat) (t : List UInt8), k ≤ nl ∧ i = .int .i64 k ∧ s = .string ⟨t.toArray⟩ ∧ t.length ≤ 1073741823 ∧ Fr [] W0 wr ∧ Hid (t = 91 :: joinT ((list.map (printO d)).take k))) (fun i _ _ => nl - (intOf i).toNat)
  case atStart => exact ⟨0, [91], Nat.zero_le _, rfl, rfl, by simp, Fr.refl _ _, hide (by simp [joinT])⟩
  case round =>
    obtain ⟨k, t, hk, rfl, rfl, htl, hfr, hrel⟩ := hrel
    have hBr := hB.keep hfr (by simp)
    obtain ⟨c0, c1, c2, c3, c4, c5, cz⟩ := hBr.c6
    by_cases hlt : k < nl
    · have hdk : decide ((k : Int) < (nl : Int)) = true := by simp; omega
      obtain ⟨ad, o0, o1, o2, o3, o4, o5, o, rfl, hN, hlk, hck, hov, a0, a1, a2, a3, a4, a5⟩ := HEL.out wr ((hf.trans hf0).trans hfr) k hlt
      have hmap : (list.map (printO d))[k]? = some (printO d o) := by rw [List.getElem?_map, hlk]; rfl
      have hst := join_step hmap
      have hpre := join_prefix (list.map (printO d)) (k + 1)
      have hlo : (printO d o).length + t.length ≤ 1073741823 ∧ (k ≠ 0 → (printO d o).length + t.length + 1 ≤ 1073741823) := by
        have h1 := HLEN.out
        have h2 := congrArg List.length hst
        have h3 := congrArg List.length hrel.out
        rw [List.length_append] at h2
        rw [List.length_cons] at h3
        refine ⟨?_, fun hk0 => ?_⟩
        · split at h2
          · omega
          · rw [List.length_cons] at h2; omega
        · rw [if_neg hk0, List.length_cons] at h2; omega
      have HC := hide (fun W (h : Fr [] w0 W) => HIH.out _ o hov (HS.out o (List.mem_of_getElem? hlk)) (by omega) W h)
      have hl1 := hlo.1
      have hl2 := hlo.2
      clear hlk hck hov hN hmap hpre hlo
      generalize printO d o = po at *
      by_cases hk0 : k = 0
      · have hdk0 : decide ((0 : Int) < (k : Int)) = false := by simp; omega
        have hdk1 : decide (0 < k) = false := by simp; omega
        have HF : Hid (t ++ po = 91 :: joinT ((list.map (printO d)).take (k + 1))) := by rw [hst, if_pos hk0, hrel.out]; rfl
        clear hst hl2 hk0
        have HE := hide (cat_str t po)
        go_wp2_with (go_at_call 22; refine (HC.out wr ((hf.trans hf0).trans hfr)).mono ?_; rintro e w2 ⟨rfl, hf2⟩)
        exact ⟨⟨k + 1, t ++ po, by omega, by go_num, congrArg Value.string HE.out, by simp; omega, hfr.trans hf2, HF⟩, by simp [intOf]; omega⟩
      · have hdk0 : decide ((0 : Int) < (k : Int)) = true := by simp; omega
        have hdk1 : decide (0 < k) = true := by simp; omega
        have HF : Hid (t ++ [32] ++ po = 91 :: joinT ((list.map (printO d)).take (k + 1))) := by rw [hst, if_neg hk0, hrel.out]; exact hide (by simp)
        have hl3 := hl2 hk0
        clear hst hl2 hk0
        have HE := hide (by rw [show (⟨#[32]⟩ : ByteArray) = ⟨[32].toArray⟩ from rfl, cat_str, cat_str] : (⟨t.toArray⟩ : ByteArray) ++ ⟨#[32]⟩ ++ ⟨po.toArray⟩ = ⟨(t ++ [32] ++ po).toArray⟩)
        go_wp2_with (go_at_call 22; refine (HC.out wr ((hf.trans hf0).trans hfr)).mono ?_; rintro e w2 ⟨rfl, hf2⟩)
        exact ⟨⟨k + 1, t ++ [32] ++ po, by omega, by go_num, congrArg Value.string HE.out, by simp; omega, hfr.trans hf2, HF⟩, by simp [intOf]; omega⟩
    · have hdk : decide ((k : Int) < (nl : Int)) = false := by simp; omega
      have HF : Hid (t ++ [93] = R) := by
        rw [hrel.out, HR.out, List.take_of_length_le (by rw [List.length_map, HLL.out]; omega)]; rfl
      have HE := hide (cat_str t [93])
      go_wp2
      go_ret
      exact ⟨by rw [← HF.out]; exact congrArg (fun x => Ending.returned (.string x)) HE.out, hf0.then0 hfr⟩
end Go.Proofs.YtdjhjfpeckndkaaGreatDoor
