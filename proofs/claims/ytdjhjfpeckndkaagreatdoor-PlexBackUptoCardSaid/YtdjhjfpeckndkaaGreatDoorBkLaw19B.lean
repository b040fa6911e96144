/- Contract: law 19's PlexBack. -/
import Derived.Test.YtdjhjfpeckndkaaGreatDoorBkObjE
import Derived.Test.YtdjhjfpeckndkaaGreatDoorBkEqA
import Derived.Test.YtdjhjfpeckndkaaGreatDoorBkPlexQ
import Derived.Test.YtdjhjfpeckndkaaGreatDoorBkLaw19
set_option linter.unusedVariables false
set_option linter.unusedSimpArgs false
namespace Go.Proofs.YtdjhjfpeckndkaaGreatDoor
open Go.RowKit
set_option maxRecDepth 100000 in
set_option maxHeartbeats 1000000 in
theorem follows_any {x : Int} {t bs : List UInt8} {Ak Al Ad A : Option Addr} {nk ck nl cl nd cd n c : Nat} (w : World) (hr : RB w (fun _ => True) A n bs) (hnc : n ≤ c) (hn : n ≤ 1073741824) (hw : wordS bs (skipF bs 0) = [48]) :
    Calls Tryz.prog 24 #[.agg #[.int .i64 2, .int .i64 x, .string ⟨t.toArray⟩, .slice Ak nk ck, .slice Al nl cl, .slice Ad nd cd], .slice A n c] w fun e w' => e = .returned (.bool true) ∧ Fr [] w w' := by
  have hs0 := skipF_le bs 0 (Nat.zero_le _)
  rw [hr.len] at hs0
  have hge := wordF_ge bs (skipF bs 0)
  have hle := wordF_le bs (skipF bs 0) (by rw [hr.len]; exact hs0)
  rw [hr.len] at hle
  have HS := hide (fun w' (h : RB w' (fun _ => True) A n bs) => rskip_any _ A n c 0 bs w' h (by omega) (Nat.zero_le _))
  have HW := hide (fun w' (h : RB w' (fun _ => True) A n bs) => rword_any _ A n c (skipF bs 0) bs w' h (by omega) hs0)
  obtain ⟨A', hsl, hrb'⟩ := slice_rb Tryz.underlying22 size_u8 hr hge hle hnc
  have hws : ((bs.take (wordF bs (skipF bs 0))).drop (skipF bs 0)) = [48] := hw
  rw [hws] at hrb'
  have HR := hide hr
  have hcv : ∀ w', Fr [] w w' → (convert 22 9 (.slice A' (wordF bs (skipF bs 0) - skipF bs 0) (c - skipF bs 0))).run Tryz.prog w' = .ok (.string ⟨[48].toArray⟩) w' := fun w' hf =>
    conv_rb Tryz.underlying22 Tryz.underlying5 Tryz.underlying9 (hrb'.keep0 hf)
  clear hws hw hr
  generalize wordF bs (skipF bs 0) = j at *
  generalize skipF bs 0 = a at *
  have HCV := hide hcv
  clear hcv hrb'
  go_enter Tryz.func24, Tryz.ntmps24
  go_wp2_with (first
    | (go_at_call 19; refine (HS.out _ (HR.out.keep0 (by repeat (first | with_reducible exact Fr.refl _ _ | with_reducible assumption | with_reducible refine Fr.drewN ?_ _ | with_reducible refine Fr.drew ?_ | with_reducible refine Fr.alloc ?_ _ | ((with_reducible refine Fr.setCell ?_ ?_ _) <;> first | (apply Or.inl; simp; done) | (apply Or.inr; simp; done) | (apply Or.inr; simp; omega) | skip) | (refine Fr.then0 ?_ (by with_reducible assumption)) | (refine Fr.trans ?_ (by with_reducible assumption)))))).mono ?_; rintro e w2 ⟨rfl, rfl⟩)
    | (go_at_call 17; refine (HW.out _ (HR.out.keep0 (by repeat (first | with_reducible exact Fr.refl _ _ | with_reducible assumption | with_reducible refine Fr.drewN ?_ _ | with_reducible refine Fr.drew ?_ | with_reducible refine Fr.alloc ?_ _ | ((with_reducible refine Fr.setCell ?_ ?_ _) <;> first | (apply Or.inl; simp; done) | (apply Or.inr; simp; done) | (apply Or.inr; simp; omega) | skip) | (refine Fr.then0 ?_ (by with_reducible assumption)) | (refine Fr.trans ?_ (by with_reducible assumption)))))).mono ?_; rintro e w2 ⟨rfl, rfl⟩; have hcv1 := HCV.out _ ((Fr.refl [] w).alloc (.cells #[.int .i64 2, .int .i64 x, .string ⟨t.toArray⟩, .slice Ak nk ck, .slice Al nl cl, .slice Ad nd cd] 31)))) 
  go_ret
  exact ⟨rfl, (by repeat (first | with_reducible exact Fr.refl _ _ | with_reducible assumption | with_reducible refine Fr.drewN ?_ _ | with_reducible refine Fr.drew ?_ | with_reducible refine Fr.alloc ?_ _ | ((with_reducible refine Fr.setCell ?_ ?_ _) <;> first | (apply Or.inl; simp; done) | (apply Or.inr; simp; done) | (apply Or.inr; simp; omega) | skip) | (refine Fr.then0 ?_ (by with_reducible assumption)) | (refine Fr.trans ?_ (by with_reducible assumption))))⟩
set_option maxRecDepth 100000 in
set_option maxHeartbeats 1000000 in
theorem equal_kind {k1 k2 x1 x2 : Int} {t1 t2 : List UInt8} {A1 A2 A3 B1 B2 B3 : Option Addr} {n1 c1 n2 c2 n3 c3 m1 d1 m2 d2 m3 d3 : Nat} (w : World) (h : (k1 != k2) = true) :
    Calls Tryz.prog 25 #[.agg #[.int .i64 k1, .int .i64 x1, .string ⟨t1.toArray⟩, .slice A1 n1 c1, .slice A2 n2 c2, .slice A3 n3 c3], .agg #[.int .i64 k2, .int .i64 x2, .string ⟨t2.toArray⟩, .slice B1 m1 d1, .slice B2 m2 d2, .slice B3 m3 d3]] w fun e w' => e = .returned (.bool false) ∧ Fr [] w w' := by
  go_enter Tryz.func25, Tryz.ntmps25
  go_wp2
  go_ret
  exact ⟨rfl, (by repeat (first | with_reducible exact Fr.refl _ _ | with_reducible assumption | with_reducible refine Fr.drewN ?_ _ | with_reducible refine Fr.drew ?_ | with_reducible refine Fr.alloc ?_ _ | ((with_reducible refine Fr.setCell ?_ ?_ _) <;> first | (apply Or.inl; simp; done) | (apply Or.inr; simp; done) | (apply Or.inr; simp; omega) | skip) | (refine Fr.then0 ?_ (by with_reducible assumption)) | (refine Fr.trans ?_ (by with_reducible assumption))))⟩
set_option maxRecDepth 100000 in
set_option maxHeartbeats 1000000 in
theorem Sound_any {w0 : World} {N : Nat → Prop} {o : PObj} {o0 o1 o2 o3 o4 o5 : Value} (hov : OV w0 N [o0, o1, o2, o3, o4, o5] o) (w : World) (hf : Fr [] w0 w) :
    Calls Tryz.prog 21 #[.agg #[o0, o1, o2, o3, o4, o5]] w fun e w' => e = .returned (.bool (soundO 32 true o)) ∧ Fr [] w w' := by
  have HS := hide (fun W (h : Fr [] w0 W) => sound_any w0 N 32 (by omega) true _ o hov W h)
  have HF := hide hf
  obtain ⟨kd, x, t, Ak, nk, ck, Al, nl, cl, Ad, nd, cd, rfl, rfl, rfl, rfl, rfl, rfl⟩ := hov.form
  clear hov hf
  generalize soundO 32 true o = b at *
  go_enter Tryz.func21, Tryz.ntmps21
  go_wp2_with (go_at_call 62; refine (HS.out _ (HF.out.trans (by repeat (first | with_reducible exact Fr.refl _ _ | with_reducible assumption | with_reducible refine Fr.drewN ?_ _ | with_reducible refine Fr.drew ?_ | with_reducible refine Fr.alloc ?_ _ | ((with_reducible refine Fr.setCell ?_ ?_ _) <;> first | (apply Or.inl; simp; done) | (apply Or.inr; simp; done) | (apply Or.inr; simp; omega) | skip) | (refine Fr.then0 ?_ (by with_reducible assumption)) | (refine Fr.trans ?_ (by with_reducible assumption)))))).mono ?_; rintro e w2 ⟨rfl, hf2⟩)
  go_ret
  exact ⟨rfl, Fr.trans (by repeat (first | with_reducible exact Fr.refl _ _ | with_reducible assumption | with_reducible refine Fr.drewN ?_ _ | with_reducible refine Fr.drew ?_ | with_reducible refine Fr.alloc ?_ _ | ((with_reducible refine Fr.setCell ?_ ?_ _) <;> first | (apply Or.inl; simp; done) | (apply Or.inr; simp; done) | (apply Or.inr; simp; omega) | skip) | (refine Fr.then0 ?_ (by with_reducible assumption)) | (refine Fr.trans ?_ (by with_reducible assumption)))) hf2⟩
end Go.Proofs.YtdjhjfpeckndkaaGreatDoor
