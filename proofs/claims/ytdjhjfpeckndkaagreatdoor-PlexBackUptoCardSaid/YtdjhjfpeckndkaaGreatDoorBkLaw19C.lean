/- Contract: law 19's PlexBack. -/
import Derived.Test.YtdjhjfpeckndkaaGreatDoorBkLaw19B
import Derived.Test.YtdjhjfpeckndkaaGreatDoorBkR18V
import Derived.Lib.AppendStr
set_option linter.unusedVariables false
set_option linter.unusedSimpArgs false
namespace Go.Proofs.YtdjhjfpeckndkaaGreatDoor
open Go.RowKit
set_option maxRecDepth 100000 in
set_option maxHeartbeats 2000000 in
/-- Where the law says nothing. -/
theorem PlexBack_out {A1 A2 : Option Addr} {n1 c1 n2 c2 : Nat} {us bs : List UInt8} {kd x : Int} {t : List UInt8} {Ak : Option Addr} {nk ck : Nat} {Al : Option Addr} {nl cl : Nat} {Ad : Option Addr} {nd cd : Nat} {o : PObj} (w : World) (hov : OV w (fun _ => True) [.int .i64 kd, .int .i64 x, .string ⟨t.toArray⟩, .slice Ak nk ck, .slice Al nl cl, .slice Ad nd cd] o) (hbad : soundO 32 true o = false ∨ kd = 9 ∨ 500 < n1 ∨ 500 < n2) :
    Calls Tryz.prog 4 #[.agg #[.int .i64 kd, .int .i64 x, .string ⟨t.toArray⟩, .slice Ak nk ck, .slice Al nl cl, .slice Ad nd cd], .slice A1 n1 c1, .slice A2 n2 c2] w fun e w' => e = .returned (.bool true) ∧ Fr [] w w' := by
  have HLI := hide (fun W (h : Fr [] w W) => light_any hov 40 W h (by omega) (by omega))
  have HSO := hide (fun W (h : Fr [] w W) => Sound_any hov W h)
  clear hov
  cases hso : soundO 32 true o
  · rw [hso] at HSO
    clear hbad hso
    go_enter Tryz.func4, Tryz.ntmps4
    go_wp2_with fail
    obtain ⟨g, hg⟩ : ∃ g, g = w.heap.size := ⟨_, rfl⟩
    obtain ⟨W0, hW0⟩ : ∃ W0, W0 = w.alloc (.cells #[.int .i64 kd, .int .i64 x, .string ⟨t.toArray⟩, .slice Ak nk ck, .slice Al nl cl, .slice Ad nd cd] 31) := ⟨_, rfl⟩
    have hB : Blk W0 g 31 #[.int .i64 kd, .int .i64 x, .string ⟨t.toArray⟩, .slice Ak nk ck, .slice Al nl cl, .slice Ad nd cd] := by rw [hW0, hg]; exact Blk.new _ _ _
    have hf0 : Fr [] w W0 := by rw [hW0]; exact (by repeat (first | with_reducible exact Fr.refl _ _ | with_reducible assumption | with_reducible refine Fr.drewN ?_ _ | with_reducible refine Fr.drew ?_ | with_reducible refine Fr.alloc ?_ _ | ((with_reducible refine Fr.setCell ?_ ?_ _) <;> first | (apply Or.inl; simp; done) | (apply Or.inr; simp; done) | (apply Or.inr; simp; omega) | skip) | (refine Fr.then0 ?_ (by with_reducible assumption)) | (refine Fr.trans ?_ (by with_reducible assumption))))
    rw [← hW0, ← hg]
    clear hW0 hg
    refine (answers_any W0).mono ?_
    rintro e w1 ⟨rfl, hf1⟩
    have hf01 := hf0.trans hf1
    have hB1 := hB.keep hf1 (by simp)
    clear hB hf1 hf0
    obtain ⟨c0, c1', c2', c3, c4, c5, cz⟩ := hB1.c6
    go_wp2_with fail
    refine (HLI.out w1 hf01).mono ?_
    rintro e w2 ⟨⟨b, rfl⟩, hf2⟩
    have hf02 := hf01.trans hf2
    have hB2 := hB1.keep hf2 (by simp)
    clear hB1 hf2 hf01 c0 c1' c2' c3 c4 c5 cz
    obtain ⟨c0, c1', c2', c3, c4, c5, cz⟩ := hB2.c6
    cases b
    · go_wp2_with fail
      refine (answers_any w2).mono ?_
      rintro e w3 ⟨rfl, hf3⟩
      go_wp2
      go_ret
      exact ⟨rfl, hf02.trans hf3⟩
    go_wp2_with fail
    refine (HSO.out w2 hf02).mono ?_
    rintro e w3 ⟨rfl, hf3⟩
    have hf03 := hf02.trans hf3
    have hB3 := hB2.keep hf3 (by simp)
    clear hB2 hf3 hf02 c0 c1' c2' c3 c4 c5 cz
    obtain ⟨c0, c1', c2', c3, c4, c5, cz⟩ := hB3.c6
    go_wp2_with fail
    refine (answers_any w3).mono ?_
    rintro e w4 ⟨rfl, hf4⟩
    go_wp2
    go_ret
    exact ⟨rfl, hf03.trans hf4⟩
  have hb2 : kd = 9 ∨ 500 < n1 ∨ 500 < n2 := by rcases hbad with h | h <;> first | exact h | (rw [hso] at h; cases h)
  rw [hso] at HSO
  clear hbad hso
  have hway : ((kd == 9) = true) ∨ ((kd == 9) = false ∧ decide ((500 : Int) < (n1 : Int)) = true) ∨ ((kd == 9) = false ∧ decide ((500 : Int) < (n1 : Int)) = false ∧ decide ((500 : Int) < (n2 : Int)) = true) := by simp; omega
  clear hb2
  go_enter Tryz.func4, Tryz.ntmps4
  go_wp2_with fail
  obtain ⟨g, hg⟩ : ∃ g, g = w.heap.size := ⟨_, rfl⟩
  obtain ⟨W0, hW0⟩ : ∃ W0, W0 = w.alloc (.cells #[.int .i64 kd, .int .i64 x, .string ⟨t.toArray⟩, .slice Ak nk ck, .slice Al nl cl, .slice Ad nd cd] 31) := ⟨_, rfl⟩
  have hB : Blk W0 g 31 #[.int .i64 kd, .int .i64 x, .string ⟨t.toArray⟩, .slice Ak nk ck, .slice Al nl cl, .slice Ad nd cd] := by rw [hW0, hg]; exact Blk.new _ _ _
  have hf0 : Fr [] w W0 := by rw [hW0]; exact (by repeat (first | with_reducible exact Fr.refl _ _ | with_reducible assumption | with_reducible refine Fr.drewN ?_ _ | with_reducible refine Fr.drew ?_ | with_reducible refine Fr.alloc ?_ _ | ((with_reducible refine Fr.setCell ?_ ?_ _) <;> first | (apply Or.inl; simp; done) | (apply Or.inr; simp; done) | (apply Or.inr; simp; omega) | skip) | (refine Fr.then0 ?_ (by with_reducible assumption)) | (refine Fr.trans ?_ (by with_reducible assumption))))
  rw [← hW0, ← hg]
  clear hW0 hg
  refine (answers_any W0).mono ?_
  rintro e w1 ⟨rfl, hf1⟩
  have hf01 := hf0.trans hf1
  have hB1 := hB.keep hf1 (by simp)
  clear hB hf1 hf0
  obtain ⟨c0, c1', c2', c3, c4, c5, cz⟩ := hB1.c6
  go_wp2_with fail
  refine (HLI.out w1 hf01).mono ?_
  rintro e w2 ⟨⟨b, rfl⟩, hf2⟩
  have hf02 := hf01.trans hf2
  have hB2 := hB1.keep hf2 (by simp)
  clear hB1 hf2 hf01 c0 c1' c2' c3 c4 c5 cz
  obtain ⟨c0, c1', c2', c3, c4, c5, cz⟩ := hB2.c6
  cases b
  · go_wp2_with fail
    refine (answers_any w2).mono ?_
    rintro e w3 ⟨rfl, hf3⟩
    go_wp2
    go_ret
    exact ⟨rfl, hf02.trans hf3⟩
  go_wp2_with fail
  refine (HSO.out w2 hf02).mono ?_
  rintro e w3 ⟨rfl, hf3⟩
  have hf03 := hf02.trans hf3
  have hB3 := hB2.keep hf3 (by simp)
  clear hB2 hf3 hf02 c0 c1' c2' c3 c4 c5 cz
  obtain ⟨c0, c1', c2', c3, c4, c5, cz⟩ := hB3.c6
  rcases hway with e1 | ⟨e1, e2⟩ | ⟨e1, e2, e3⟩
  all_goals
    go_wp2_with fail
    refine (answers_any w3).mono ?_
    rintro e w4 ⟨rfl, hf4⟩
    go_wp2
    go_ret
    exact ⟨rfl, hf03.trans hf4⟩
set_option maxRecDepth 100000 in
set_option maxHeartbeats 4000000 in
theorem PlexBack_in {A1 A2 : Option Addr} {n1 c1 n2 c2 : Nat} {us bs : List UInt8} {kd x : Int} {t : List UInt8} {Ak : Option Addr} {nk ck : Nat} {Al : Option Addr} {nl cl : Nat} {Ad : Option Addr} {nd cd : Nat} {o : PObj} (w : World) (hov : OV w (fun _ => True) [.int .i64 kd, .int .i64 x, .string ⟨t.toArray⟩, .slice Ak nk ck, .slice Al nl cl, .slice Ad nd cd] o) (hr1 : RB w (fun _ => True) A1 n1 us) (hr2 : RB w (fun _ => True) A2 n2 bs) (hc1 : n1 ≤ c1) (hc2 : n2 ≤ c2) (hso : soundO 32 true o = true) (hk9 : kd ≠ 9) (hn1 : n1 ≤ 500) (hn2 : n2 ≤ 500) (hsz : sizeO o ≤ 1048576) :
    Calls Tryz.prog 4 #[.agg #[.int .i64 kd, .int .i64 x, .string ⟨t.toArray⟩, .slice Ak nk ck, .slice Al nl cl, .slice Ad nd cd], .slice A1 n1 c1, .slice A2 n2 c2] w fun e w' => e = .returned (.bool true) ∧ Fr [] w w' := by
  have HLI := hide (fun W (h : Fr [] w W) => light_any hov 40 W h (by omega) (by omega))
  have HSO := hide (fun W (h : Fr [] w W) => Sound_any hov W h)
  have hok : o.kind = kd := by cases hov; rfl
  have hs := soundO_nostream 32 o hso (by rw [hok]; exact hk9)
  rw [hso] at HSO
  have hpl := print_len 32 o hs
  have HPR := hide (fun W (h : Fr [] w W) => print_any w (fun _ => True) 32 _ o hov hs (by omega) W h)
  have HDE := hide (fun W (h : Fr [] w W) => depth_any w (fun _ => True) 32 (by omega) _ o hov hs W h)
  have e1 : (kd == 9) = false := by simpa using hk9
  have e2 : decide ((500 : Int) < (n1 : Int)) = false := by simp; omega
  have e3 : decide ((500 : Int) < (n2 : Int)) = false := by simp; omega
  have HS := hide hs
  have HOV := hide hov
  have HR1 := hide hr1
  have HR2 := hide hr2
  have HOK := hide hok
  clear hov hr1 hr2 hso hk9 hs hok
  go_enter Tryz.func4, Tryz.ntmps4
  go_wp2_with fail
  obtain ⟨g, hg⟩ : ∃ g, g = w.heap.size := ⟨_, rfl⟩
  obtain ⟨W0, hW0⟩ : ∃ W0, W0 = w.alloc (.cells #[.int .i64 kd, .int .i64 x, .string ⟨t.toArray⟩, .slice Ak nk ck, .slice Al nl cl, .slice Ad nd cd] 31) := ⟨_, rfl⟩
  have hB : Blk W0 g 31 #[.int .i64 kd, .int .i64 x, .string ⟨t.toArray⟩, .slice Ak nk ck, .slice Al nl cl, .slice Ad nd cd] := by rw [hW0, hg]; exact Blk.new _ _ _
  have hf0 : Fr [] w W0 := by rw [hW0]; exact (by repeat (first | with_reducible exact Fr.refl _ _ | with_reducible assumption | with_reducible refine Fr.drewN ?_ _ | with_reducible refine Fr.drew ?_ | with_reducible refine Fr.alloc ?_ _ | ((with_reducible refine Fr.setCell ?_ ?_ _) <;> first | (apply Or.inl; simp; done) | (apply Or.inr; simp; done) | (apply Or.inr; simp; omega) | skip) | (refine Fr.then0 ?_ (by with_reducible assumption)) | (refine Fr.trans ?_ (by with_reducible assumption))))
  rw [← hW0, ← hg]
  clear hW0 hg
  refine (answers_any W0).mono ?_
  rintro e w1 ⟨rfl, hf1⟩
  have hf01 := hf0.trans hf1
  have hB1 := hB.keep hf1 (by simp)
  clear hB hf1 hf0
  obtain ⟨c0, c1', c2', c3, c4, c5, cz⟩ := hB1.c6
  go_wp2_with fail
  refine (HLI.out w1 hf01).mono ?_
  rintro e w2 ⟨⟨b, rfl⟩, hf2⟩
  have hf02 := hf01.trans hf2
  have hB2 := hB1.keep hf2 (by simp)
  clear hB1 hf2 hf01 c0 c1' c2' c3 c4 c5 cz
  obtain ⟨c0, c1', c2', c3, c4, c5, cz⟩ := hB2.c6
  cases b
  · go_wp2_with fail
    refine (answers_any w2).mono ?_
    rintro e w3 ⟨rfl, hf3⟩
    go_wp2
    go_ret
    exact ⟨rfl, hf02.trans hf3⟩
  go_wp2_with fail
  refine (HSO.out w2 hf02).mono ?_
  rintro e w3 ⟨rfl, hf3⟩
  have hf03 := hf02.trans hf3
  have hB3 := hB2.keep hf3 (by simp)
  clear hB2 hf3 hf02 c0 c1' c2' c3 c4 c5 cz
  obtain ⟨c0, c1', c2', c3, c4, c5, cz⟩ := hB3.c6
  go_wp2_with fail
  refine (HPR.out w3 hf03).mono ?_
  rintro e w4 ⟨rfl, hf4⟩
  have hf04 := hf03.trans hf4
  have hB4 := hB3.keep hf4 (by simp)
  clear hB3 hf4 hf03 c0 c1' c2' c3 c4 c5 cz
  obtain ⟨c0, c1', c2', c3, c4', c5, cz⟩ := hB4.c6
  have hs2 := HS.out
  obtain ⟨s, hsE⟩ : ∃ s, s = printO 32 o := ⟨_, rfl⟩
  rw [← hsE] at hpl ⊢
  have HSE := hide hsE
  have hsl : s.length ≤ 4194304 := by omega
  clear hsE hs2 hpl
  obtain ⟨i0, hi0, hz0, hz1, hz2⟩ := info_parts info_u8
  have hst : Lib.strCells ⟨s.toArray⟩ = u8s s := rfl
  have HLN := hide (by rw [List.length_append, HR1.out.len] : (us ++ s).length = n1 + s.length)
  have hr14 := HR1.out.keep0 hf04
  have hown4 : (w4.alloc (.cells #[] 5)).ownsRow w4.heap.size 5 1 (.slice (some ⟨w4.heap.size, 0, none⟩) 0 0) 0 (u8s []) := own_lit (cs := []) rfl (Nat.le_refl _) (Nat.zero_le _)
  go_wp2_with (first
    | (at_builtin; refine wpList_append_any (P := Tryz.prog) _ rfl (.tmp 49) (.tmp 50) _ rfl w4.heap.size 5 i0 _ 1 1 Tryz.underlying22 hi0 hz0 hz1 hz2 rfl (by omega) (.slice (some ⟨w4.heap.size, 0, none⟩) 0 0) 0 (u8s []) rfl hown4 (fun _ => True) A1 n1 c1 (u8s us) rfl (hr14.keep0 ((Fr.refl _ _).alloc _)) (u8s_one _) (by unfold maxLen; omega) (by omega) (by simp) ?_; intro v1 w5 hown5 hg5 hb5; rw [← u8s_append, List.nil_append, Nat.zero_add] at hown5; have hb45 : w4.heap.size ≤ w5.heap.size := Nat.le_trans (by rw [World.size_alloc]; omega) hg5.size)
    | (at_builtin; refine Lib.wpList_append_own_string (P := Tryz.prog) _ rfl (.tmp 51) (.tmp 52) _ _ rfl w4.heap.size 5 i0 Tryz.underlying22 Tryz.underlying9 hi0 hz0 hz1 hz2 v1 n1 (u8s us) rfl hown5 ⟨s.toArray⟩ rfl (by rw [size_str]; unfold maxLen; omega) (by rw [size_str]; omega) hb45 ?_; intro v2 w6 hown6 hg6 _; rw [size_str, hst, ← u8s_append] at hown6; have hb46 : w4.heap.size ≤ w6.heap.size := Nat.le_trans hb45 hg6.size)
    | (at_builtin; refine app_u8s rfl (.tmp 53) (.tmp 54) rfl v2 (us ++ s) w6 w4.heap.size (n1 + s.length) 1 [32] [.int .u8 32] rfl rfl rfl HLN.out hown6 rfl (by omega) hb46 ?_; intro v3 w7 hown7 hf7 _; have hb47 : w4.heap.size ≤ w7.heap.size := Nat.le_trans hb46 hf7.size; have hf47 := fr_app (((((Fr.refl [] w4).alloc _).grown hg5 (fun k hk => .inr (Nat.le_of_eq (by simpa [Value.ownBlock] using hk)))).grown hg6 (fun k hk => .inr (own_base hown5 k hk)))) hown6 (Nat.le_refl _) hf7)
    | (at_builtin; refine wpList_append_any (P := Tryz.prog) _ rfl (.tmp 55) (.tmp 56) _ rfl w4.heap.size 5 i0 _ 1 1 Tryz.underlying22 hi0 hz0 hz1 hz2 rfl (by omega) v3 (n1 + s.length + 1) (u8s (us ++ s ++ [32])) rfl hown7 (fun _ => True) A2 n2 c2 (u8s bs) rfl (HR2.out.keep0 (hf04.trans hf47)) (u8s_one _) (by unfold maxLen; omega) (by omega) hb47 ?_; intro v4 w8 hown8 hg8 _; rw [← u8s_append, List.append_assoc] at hown8; have hf48 := hf47.grown hg8 (fun k hk => .inr (own_base hown7 k hk))))
  obtain ⟨A4, c4, rfl⟩ := own_slice hown8
  have hcap := own_caps hown8
  have hrb8 : RB w8 (fun _ => True) A4 (n1 + s.length + 1 + n2) (us ++ s ++ ([32] ++ bs)) := (Rd.of_own hown8).more (fun _ _ _ => trivial)
  have hf08 := hf04.trans hf48
  have hB8 := hB4.keep hf48 (by simp)
  clear hB4 hf48 hf47 hg8 hown8 hown7 hf7 hown6 hg6 hown5 hg5 hb5 hown4 hf04 c0 c1' c2' c3 c4' c5 cz hb45 hb46 hb47 hi0 hz0 hz1 hz2 hr14
  obtain ⟨c0, c1', c2', c3', c4', c5', cz⟩ := hB8.c6
  have hbm := back_main HS.out us bs
  have hbk := back_skip HS.out us ([32] ++ bs)
  rw [← HSE.out, HR1.out.len] at hbm hbk
  have hcl : ((n1 + s.length : Nat) : Int) = (n1 : Int) + (s.length : Int) := by omega
  rcases hbm with ⟨f, hobj⟩ | ⟨hk2, hw48, f, m, j, hobj⟩
  · have HB1 := hide (Object_pure_ok (k := n1) (deep := 32) hrb8 hcap.1 (by omega) (by omega) (by rw [hbk.1]; omega) (by omega) (by rw [hbk.1]; exact hobj))
    have HEQ := hide (fun (w9 w10 : World) (q0 q1 q2 q3 q4 q5 : Value) (h : OV w9 (fun g => w8.heap.size ≤ g) [q0, q1, q2, q3, q4, q5] o) (y1 : Fr [] w9 w10) (y2 : Fr [] w w10) => equal_same h _ HOV.out w10 y1 y2 (by omega))
    have HDP := hide (back_own HS.out)
    have HDD := hide (fun h => back_deep HS.out h)
    have HDF := hide (fun h => back_flat HS.out h)
    have HSK0 := hide (back_skip HS.out [] [])
    have HDL := hide (depth_le' 32 o)
    rw [← HSE.out] at HDP HDD HDF HSK0
    clear hbk hobj
    generalize depthO 32 o = D at *
    refine HB1.out.mono ?_
    rintro e w9 ⟨q0, q1, q2, q3, q4, q5, rfl, hov9, hf9⟩
    obtain ⟨kd9, x9, t9, Ak9, nk9, ck9, Al9, nl9, cl9, Ad9, nd9, cd9, rfl, rfl, rfl, rfl, rfl, rfl⟩ := hov9.form
    have HOV9 := hide hov9
    clear hov9
    have hf09 := hf08.trans hf9
    have hB9 := hB8.keep hf9 (by simp)
    clear c0 c1' c2' c3' c4' c5' cz hrb8 hcap
    obtain ⟨c0, c1', c2', c3', c4', c5', cz⟩ := hB9.c6
    have hgl := hB9.lt
    have hgne := Nat.ne_of_lt hgl
    go_wp2_with fail
    obtain ⟨p9, hp9⟩ : ∃ p9, p9 = w9.heap.size := ⟨_, rfl⟩
    obtain ⟨W9, hW9⟩ : ∃ W9, W9 = w9.alloc (.cells #[.int .i64 kd9, .int .i64 x9, .string ⟨t9.toArray⟩, .slice Ak9 nk9 ck9, .slice Al9 nl9 cl9, .slice Ad9 nd9 cd9] 31) := ⟨_, rfl⟩
    have hf99 : Fr [] w9 W9 := by rw [hW9]; exact (by repeat (first | with_reducible exact Fr.refl _ _ | with_reducible assumption | with_reducible refine Fr.drewN ?_ _ | with_reducible refine Fr.drew ?_ | with_reducible refine Fr.alloc ?_ _ | ((with_reducible refine Fr.setCell ?_ ?_ _) <;> first | (apply Or.inl; simp; done) | (apply Or.inr; simp; done) | (apply Or.inr; simp; omega) | skip) | (refine Fr.then0 ?_ (by with_reducible assumption)) | (refine Fr.trans ?_ (by with_reducible assumption))))
    have hBg9 := hB9.keep hf99 (by simp)
    rw [← hW9, ← hp9]
    clear hW9 hp9 hB9 c0 c1' c2' c3' c4' c5' cz hgl hgne
    have hf0W := hf09.trans hf99
    refine (HEQ.out w9 W9 _ _ _ _ _ _ HOV9.out hf99 hf0W).mono ?_
    rintro e w10 ⟨rfl, hf10⟩
    have hf010 := hf0W.trans hf10
    have hB10 := hBg9.keep hf10 (by simp)
    clear hf9 hf99 hf09 hBg9 hf0W HEQ HOV9 hf10 hf08 hB8
    obtain ⟨c0, c1', c2', c3', c4', c5', cz⟩ := hB10.c6
    go_wp2_with fail
    refine (HDE.out w10 hf010).mono ?_
    rintro e w11 ⟨rfl, hf11⟩
    have hf011 := hf010.trans hf11
    clear hf11 hf010 hB10 c0 c1' c2' c3' c4' c5' cz
    obtain ⟨cc, W1, hcv, hfW1, _, _, hrbW, hcc⟩ := conv_bytes (P := Tryz.prog) Tryz.underlying9 Tryz.underlying22 Tryz.underlying5 s w11
    have hfW := hf011.trans hfW1
    have hlast := HSK0.out
    simp only [List.nil_append, List.append_nil, List.length_nil] at hlast
    obtain ⟨fD, hoD⟩ := HDP.out
    have hDb := HDL.out
    have HB2 := hide (Object_pure_ok (k := 0) (deep := (D : Int)) (hrbW.more (fun _ _ _ => trivial)) hcc (by omega) (Nat.zero_le _) (by rw [hlast.1]; exact hlast.2) (by omega) (by rw [hlast.1]; exact hoD))
    have HLA := hide hlast
    clear hrbW hfW1 hf011 hlast hoD HDP
    go_wp2_with fail
    clear hcv
    refine HB2.out.mono ?_
    rintro e w12 ⟨y0, y1, y2, y3, y4, y5, rfl, hov12, hf12⟩
    obtain ⟨kd9, x9, t9, Ak9, nk9, ck9, Al9, nl9, cl9, Ad9, nd9, cd9, rfl, rfl, rfl, rfl, rfl, rfl⟩ := hov12.form
    clear hov12
    have hf012 := hfW.trans hf12
    clear hfW hf12 HB2
    obtain ⟨W12, hW12⟩ : ∃ W12, W12 = w12.alloc (.cells #[.int .i64 kd9, .int .i64 x9, .string ⟨t9.toArray⟩, .slice Ak9 nk9 ck9, .slice Al9 nl9 cl9, .slice Ad9 nd9 cd9] 31) := ⟨_, rfl⟩
    have hf12W : Fr [] w W12 := by rw [hW12]; exact hf012.alloc _
    obtain ⟨cc2, W2, hcv2, hfW2, _, _, hrbW2, hcc2⟩ := conv_bytes (P := Tryz.prog) Tryz.underlying9 Tryz.underlying22 Tryz.underlying5 s W12
    have hszW : W12.heap.size = w12.heap.size + 1 := by rw [hW12, World.size_alloc]
    rw [hszW] at hcv2
    have hcv2' := hcv2
    rw [hW12] at hcv2
    have hfin := hf12W.trans hfW2
    have hrbT : RB W2 (fun _ => True) (some ⟨w12.heap.size + 1, 0, none⟩) s.length s := by rw [← hszW]; exact hrbW2.more (fun _ _ _ => trivial)
    clear hW12 hf12W hfW2 hrbW2 hszW hcv2' hf012
    have HRT := hide hrbT
    clear hrbT
    go_wp2_with fail
    clear hcv2
    rcases Nat.eq_zero_or_pos D with hD | hD
    · obtain ⟨fE, hoE⟩ := HDF.out hD
      have hD2 : ((D : Int) == 0) = true := by simp; omega
      have HB3 := hide (Object_pure_ok (k := 0) (deep := (D : Int) - 1) HRT.out hcc2 (by omega) (Nat.zero_le _) (by rw [HLA.out.1]; exact HLA.out.2) (by omega) (by rw [HLA.out.1]; exact hoE))
      clear hD hoE
      refine HB3.out.mono ?_
      rintro e w13 ⟨z0, z1, z2, z3, z4, z5, rfl, hov13, hf13⟩
      obtain ⟨kd8, x8, t8, Ak8, nk8, ck8, Al8, nl8, cl8, Ad8, nd8, cd8, rfl, rfl, rfl, rfl, rfl, rfl⟩ := hov13.form
      clear hov13
      go_wp2
      go_ret
      exact ⟨rfl, (hfin.trans hf13).alloc _⟩
    · obtain ⟨fE, hoE⟩ := HDD.out hD
      have hD2 : ((D : Int) == 0) = false := by simp; omega
      have HB3 := hide (Object_pure_err (k := 0) (deep := (D : Int) - 1) HRT.out hcc2 (by omega) (Nat.zero_le _) (by rw [HLA.out.1]; exact HLA.out.2) (by omega) (by rw [HLA.out.1]; exact hoE) (by decide) (by decide))
      clear hD hoE
      refine HB3.out.mono ?_
      rintro e w13 ⟨rfl, hf13⟩
      go_wp2
      go_ret
      exact ⟨rfl, (hfin.trans hf13).alloc _⟩
  · obtain rfl : kd = 2 := by rw [← hk2]; exact HOK.out.symm
    have HB1 := hide (Object_pure_ok (k := n1) (deep := 32) hrb8 hcap.1 (by omega) (by omega) (by rw [hbk.1]; omega) (by omega) (by rw [hbk.1]; exact hobj))
    have HFO := hide (fun (W : World) (h : Fr [] w W) => follows_any (x := x) (t := t) (Ak := Ak) (nk := nk) (ck := ck) (Al := Al) (nl := nl) (cl := cl) (Ad := Ad) (nd := nd) (cd := cd) W (HR2.out.keep0 h) hc2 (by omega) hw48)
    clear hbk hobj hw48 hk2
    refine HB1.out.mono ?_
    rintro e w9 ⟨q0, q1, q2, q3, q4, q5, rfl, hov9, hf9⟩
    have hk8 : q0 = .int .i64 8 := by cases hov9; rfl
    obtain ⟨kd9, x9, t9, Ak9, nk9, ck9, Al9, nl9, cl9, Ad9, nd9, cd9, rfl, rfl, rfl, rfl, rfl, rfl⟩ := hov9.form
    obtain rfl : kd9 = 8 := by injection hk8
    clear hov9 hk8
    have hf09 := hf08.trans hf9
    have hB9 := hB8.keep hf9 (by simp)
    clear c0 c1' c2' c3' c4' c5' cz hrb8 hcap
    obtain ⟨c0, c1', c2', c3', c4', c5', cz⟩ := hB9.c6
    have hgl := hB9.lt
    have hgne := Nat.ne_of_lt hgl
    go_wp2_with fail
    obtain ⟨W9, hW9⟩ : ∃ W9, W9 = w9.alloc (.cells #[.int .i64 8, .int .i64 x9, .string ⟨t9.toArray⟩, .slice Ak9 nk9 ck9, .slice Al9 nl9 cl9, .slice Ad9 nd9 cd9] 31) := ⟨_, rfl⟩
    have hf99 : Fr [] w9 W9 := by rw [hW9]; exact (by repeat (first | with_reducible exact Fr.refl _ _ | with_reducible assumption | with_reducible refine Fr.drewN ?_ _ | with_reducible refine Fr.drew ?_ | with_reducible refine Fr.alloc ?_ _ | ((with_reducible refine Fr.setCell ?_ ?_ _) <;> first | (apply Or.inl; simp; done) | (apply Or.inr; simp; done) | (apply Or.inr; simp; omega) | skip) | (refine Fr.then0 ?_ (by with_reducible assumption)) | (refine Fr.trans ?_ (by with_reducible assumption))))
    have hBg9 := hB9.keep hf99 (by simp)
    rw [← hW9]
    clear hW9 hB9 c0 c1' c2' c3' c4' c5' cz hgl hgne
    have hf0W := hf09.trans hf99
    refine (equal_kind W9 (by decide)).mono ?_
    rintro e w10 ⟨rfl, hf10⟩
    have hf010 := hf0W.trans hf10
    have hB10 := hBg9.keep hf10 (by simp)
    clear hf9 hf99 hf09 hBg9 hf0W hf10 hf08 hB8
    obtain ⟨c0, c1', c2', c3', c4', c5', cz⟩ := hB10.c6
    go_wp2_with fail
    refine (HFO.out w10 hf010).mono ?_
    rintro e w11 ⟨rfl, hf11⟩
    go_wp2
    go_ret
    exact ⟨rfl, hf010.trans hf11⟩
theorem PlexBack_any {A1 A2 : Option Addr} {n1 c1 n2 c2 : Nat} {us bs : List UInt8} {kd x : Int} {t : List UInt8} {Ak : Option Addr} {nk ck : Nat} {Al : Option Addr} {nl cl : Nat} {Ad : Option Addr} {nd cd : Nat} {o : PObj} (w : World) (hov : OV w (fun _ => True) [.int .i64 kd, .int .i64 x, .string ⟨t.toArray⟩, .slice Ak nk ck, .slice Al nl cl, .slice Ad nd cd] o) (hr1 : RB w (fun _ => True) A1 n1 us) (hr2 : RB w (fun _ => True) A2 n2 bs) (hc1 : n1 ≤ c1) (hc2 : n2 ≤ c2) (hsz : sizeO o ≤ 1048576) :
    Calls Tryz.prog 4 #[.agg #[.int .i64 kd, .int .i64 x, .string ⟨t.toArray⟩, .slice Ak nk ck, .slice Al nl cl, .slice Ad nd cd], .slice A1 n1 c1, .slice A2 n2 c2] w fun e w' => e = .returned (.bool true) ∧ Fr [] w w' := by
  by_cases hbad : soundO 32 true o = false ∨ kd = 9 ∨ 500 < n1 ∨ 500 < n2
  · exact PlexBack_out (us := us) (bs := bs) w hov hbad
  · have h1 : soundO 32 true o = true := by
      cases h : soundO 32 true o
      · exact absurd (.inl h) hbad
      · rfl
    exact PlexBack_in w hov hr1 hr2 hc1 hc2 h1 (fun h => hbad (.inr (.inl h))) (by omega) (by omega) hsz
end Go.Proofs.YtdjhjfpeckndkaaGreatDoor
