/- Contracts: Texts, Same, Equal of the reference at equal data; law 19's depth, follows. -/
/- Contracts: law 19's depth, follows; Equal at objects without lists. -/
import Derived.Test.YtdjhjfpeckndkaaGreatDoorBkSoundD
import Derived.Test.YtdjhjfpeckndkaaGreatDoorBkWalkB
set_option linter.unusedVariables false
set_option linter.unusedSimpArgs false
namespace Go.Proofs.YtdjhjfpeckndkaaGreatDoor
open Go.RowKit
set_option maxRecDepth 100000 in
set_option maxHeartbeats 1000000 in
theorem texts_same {N1 N2 : Nat → Prop} {A1 A2 : Option Addr} {n c1 c2 : Nat} {keys : List (List UInt8)} {w : World} (h1 : Rd w N1 1 A1 n (keys.map strV)) (h2 : Rd w N2 1 A2 n (keys.map strV)) (hn : n ≤ 4611686018427387904) :
    Calls Tryz.prog 69 #[.slice A1 n c1, .slice A2 n c2] w fun e w' => e = .returned (.bool true) ∧ Fr [] w w' := by
  have H1 := hide h1
  have H2 := hide h2
  clear h1 h2
  go_enter Tryz.func69, Tryz.ntmps69
  go_wp2
  go_loopw [5] (fun i wr => ∃ k : Nat, k ≤ n ∧ i = .int .i64 k ∧ Fr [] w wr) (fun i _ => n - (intOf i).toNat)
  case atStart => exact ⟨0, Nat.zero_le _, rfl, Fr.refl _ _⟩
  case round =>
    obtain ⟨k, hk, rfl, hfr⟩ := hrel
    by_cases hlt : k < n
    · have hdk : decide ((k : Int) < (n : Int)) = true := by simp; omega
      have hi1 : (0 : Int) ≤ (k : Int) := by omega
      have hi2 : (k : Int) < (n : Int) := by omega
      obtain ⟨a1, s, rfl, hs, hc1⟩ := rd_str H1.out hfr hlt
      obtain ⟨a2, s', rfl, hs', hc2⟩ := rd_str H2.out hfr hlt
      obtain rfl : s = s' := by rw [hs] at hs'; injection hs'
      clear hs hs'
      go_wp2
      go_quiet (fail)
      go_wp2
      exact ⟨⟨k + 1, by omega, by go_num, hfr.drewN _⟩, by simp [intOf]; omega⟩
    · have hdk : decide ((k : Int) < (n : Int)) = false := by simp; omega
      go_wp2
      go_ret
      exact ⟨rfl, hfr⟩
set_option maxRecDepth 100000 in
set_option maxHeartbeats 1000000 in
theorem same_same {N1 N2 : Nat → Prop} {A1 A2 : Option Addr} {n c1 c2 : Nat} {bs : List UInt8} {w : World} (h1 : RB w N1 A1 n bs) (h2 : RB w N2 A2 n bs) (hn : n ≤ 4611686018427387904) :
    Calls Tryz.prog 70 #[.slice A1 n c1, .slice A2 n c2] w fun e w' => e = .returned (.bool true) ∧ Fr [] w w' := by
  have H1 := hide h1
  have H2 := hide h2
  clear h1 h2
  go_enter Tryz.func70, Tryz.ntmps70
  go_wp2
  go_loopw [5] (fun i wr => ∃ k : Nat, k ≤ n ∧ i = .int .i64 k ∧ Fr [] w wr) (fun i _ => n - (intOf i).toNat)
  case atStart => exact ⟨0, Nat.zero_le _, rfl, Fr.refl _ _⟩
  case round =>
    obtain ⟨k, hk, rfl, hfr⟩ := hrel
    by_cases hlt : k < n
    · have hdk : decide ((k : Int) < (n : Int)) = true := by simp; omega
      have hi1 : (0 : Int) ≤ (k : Int) := by omega
      have hi2 : (k : Int) < (n : Int) := by omega
      obtain ⟨a1, s, rfl, hs, hc1⟩ := (H1.out.keep0 hfr).at_ hlt
      obtain ⟨a2, s', rfl, hs', hc2⟩ := (H2.out.keep0 hfr).at_ hlt
      obtain rfl : s = s' := by rw [hs] at hs'; injection hs'
      clear hs hs'
      go_wp2
      go_quiet (fail)
      go_wp2
      exact ⟨⟨k + 1, by omega, by go_num, hfr.drewN _⟩, by simp [intOf]; omega⟩
    · have hdk : decide ((k : Int) < (n : Int)) = false := by simp; omega
      go_wp2
      go_ret
      exact ⟨rfl, hfr⟩
theorem sizeO_pos (o : PObj) : 1 ≤ sizeO o := by cases o; simp only [sizeO]; omega
theorem sizeO_mem : ∀ {l : List PObj} {o : PObj}, o ∈ l → sizeO o ≤ sizeL l
  | x :: l, o, h => by
    simp only [sizeL]
    rcases List.mem_cons.1 h with rfl | h
    · omega
    · have := sizeO_mem h; omega
theorem sizeL_len : ∀ l : List PObj, l.length ≤ sizeL l
  | [] => Nat.le_refl _
  | o :: l => by have := sizeL_len l; have := sizeO_pos o; simp only [sizeL, List.length_cons]; omega
theorem keys_len (ks : List (List UInt8)) : ks.length ≤ (ks.map (fun s => s.length + 1)).sum := by
  induction ks with
  | nil => simp
  | cons k ks ih => simp only [List.length_cons, List.map_cons, List.sum_cons]; omega
def RetT (w : World) (e : Ending) (w' : World) : Prop := e = .returned (.bool true) ∧ Fr [] w w'
set_option maxRecDepth 100000 in
set_option maxHeartbeats 2000000 in
theorem equal_same {w1 w2 : World} {N1 N2 : Nat → Prop} {cs1 : List Value} {o : PObj} (h1 : OV w1 N1 cs1 o) : ∀ (cs2 : List Value), OV w2 N2 cs2 o → ∀ w, Fr [] w1 w → Fr [] w2 w → sizeO o ≤ 1073741824 →
    Calls Tryz.prog 25 #[.agg cs1.toArray, .agg cs2.toArray] w (RetT w) := by
  induction h1 with
  | mk kd n t Ak nk ck keys Al nl cl list css Ad nd cd data ht hk hks hck hcm hl hcl hlm hcs hll ho hd hcd hdm ih =>
  intro cs2 h2 w hf1 hf2 hsz
  cases h2 with
  | mk _ _ _ Ak2 nk2 ck2 _ Al2 nl2 cl2 _ css2 Ad2 nd2 cd2 _ ht2 hk2 hks2 hck2 hcm2 hl2 hcl2 hlm2 hcs2 hll2 ho2 hd2 hcd2 hdm2 =>
  obtain rfl : nk = nk2 := by have a := hk.len1; have b := hk2.len1; omega
  obtain rfl : nl = nl2 := by omega
  obtain rfl : nd = nd2 := by have a := hd.len; have b := hd2.len; omega
  simp only [sizeO] at hsz
  have b1 : nl ≤ 1073741824 := by have := sizeL_len list; omega
  have b2 : nk ≤ 1073741824 := by have a := hk.len1; rw [List.length_map] at a; have := keys_len keys; omega
  have b3 : nd ≤ 1073741824 := by have a := hd.len; omega
  have HIH := hide (fun (i : Nat) (cs cs2 : List Value) (o : PObj) (x1 : css[i]? = some cs) (x2 : list[i]? = some o) (x3 : OV w2 N2 cs2 o) (W : World) (y1 : Fr [] w1 W) (y2 : Fr [] w2 W) => ih i cs o x1 x2 cs2 x3 W y1 y2 (by have := sizeO_mem (List.mem_of_getElem? x2); omega))
  have HE1 := hide (fun (W : World) (h : Fr [] w1 W) (k : Nat) (hk : k < nl) => ov_elem h hl hcs hll ho hk)
  have HE2 := hide (fun (W : World) (h : Fr [] w2 W) (k : Nat) (hk : k < nl) => ov_elem h hl2 hcs2 hll2 ho2 hk)
  have HT := hide (fun (W : World) (y1 : Fr [] w1 W) (y2 : Fr [] w2 W) => texts_same (c1 := ck) (c2 := ck2) (hk.keep0 y1) (hk2.keep0 y2) (by omega))
  have HD := hide (fun (W : World) (y1 : Fr [] w1 W) (y2 : Fr [] w2 W) => same_same (c1 := cd) (c2 := cd2) (hd.keep0 y1) (hd2.keep0 y2) (by omega))
  have HF1 := hide hf1
  have HF2 := hide hf2
  clear ih hk hks hl hcs hll ho hd hk2 hks2 hl2 hcs2 hll2 ho2 hd2 ht ht2 hck hcm hcl hlm hcd hdm hck2 hcm2 hcl2 hlm2 hcd2 hdm2 hsz hf1 hf2
  go_enter Tryz.func25, Tryz.ntmps25
  go_wp2_with fail
  obtain ⟨g, hg⟩ : ∃ g, g = w.heap.size := ⟨_, rfl⟩
  obtain ⟨q, hq⟩ : ∃ q, q = w.heap.size + 1 := ⟨_, rfl⟩
  obtain ⟨W0, hW0⟩ : ∃ W0, W0 = (w.alloc (.cells #[.int .i64 kd, .int .i64 n, strV t, .slice Ak nk ck, .slice Al nl cl, .slice Ad nd cd] 31)).alloc (.cells #[.int .i64 kd, .int .i64 n, strV t, .slice Ak2 nk ck2, .slice Al2 nl cl2, .slice Ad2 nd cd2] 31) := ⟨_, rfl⟩
  have hBg : Blk W0 g 31 #[.int .i64 kd, .int .i64 n, strV t, .slice Ak nk ck, .slice Al nl cl, .slice Ad nd cd] := by rw [hW0, hg]; exact (Blk.new _ _ _).alloc _
  have hBq : Blk W0 q 31 #[.int .i64 kd, .int .i64 n, strV t, .slice Ak2 nk ck2, .slice Al2 nl cl2, .slice Ad2 nd cd2] := by rw [hW0, hq]; exact Blk.new2 _ _ _ (by rw [World.size_alloc])
  have hf0 : Fr [] w W0 := by rw [hW0]; exact (by repeat (first | with_reducible exact Fr.refl _ _ | with_reducible assumption | with_reducible refine Fr.drewN ?_ _ | with_reducible refine Fr.drew ?_ | with_reducible refine Fr.alloc ?_ _ | ((with_reducible refine Fr.setCell ?_ ?_ _) <;> first | (apply Or.inl; simp; done) | (apply Or.inr; simp; done) | (apply Or.inr; simp; omega) | skip) | (refine Fr.then0 ?_ (by with_reducible assumption)) | (refine Fr.trans ?_ (by with_reducible assumption))))
  rw [← hW0, ← hq, ← hg]
  clear hW0 hg hq
  refine (HT.out W0 (HF1.out.trans hf0) (HF2.out.trans hf0)).mono ?_
  rintro e w3 ⟨rfl, hf3⟩
  have hBg3 := hBg.keep hf3 (by simp)
  have hBq3 := hBq.keep hf3 (by simp)
  obtain ⟨c0, c1, c2, c3, c4, c5, cz⟩ := hBg3.c6
  obtain ⟨d0, d1, d2, d3, d4, d5, dz⟩ := hBq3.c6
  go_wp2_with fail
  refine (HD.out w3 ((HF1.out.trans hf0).trans hf3) ((HF2.out.trans hf0).trans hf3)).mono ?_
  rintro e w4 ⟨rfl, hf4⟩
  have hBg4 := hBg3.keep hf4 (by simp)
  have hBq4 := hBq3.keep hf4 (by simp)
  have hf04 := (hf0.trans hf3).trans hf4
  clear c0 c1 c2 c3 c4 c5 cz d0 d1 d2 d3 d4 d5 dz
  obtain ⟨c0, c1, c2, c3, c4, c5, cz⟩ := hBg4.c6
  obtain ⟨d0, d1, d2, d3, d4, d5, dz⟩ := hBq4.c6
  go_wp2
  go_loopw [5] (fun i wr => ∃ k : Nat, k ≤ nl ∧ i = .int .i64 k ∧ Fr [] w4 wr) (fun i _ => nl - (intOf i).toNat)
  case atStart => exact ⟨0, Nat.zero_le _, rfl, Fr.refl _ _⟩
  case round =>
    clear c0 c1 c2 c3 c4 c5 cz d0 d1 d2 d3 d4 d5 dz
    obtain ⟨k, hk, rfl, hfr⟩ := hrel
    have hBg5 := hBg4.keep hfr (by simp)
    have hBq5 := hBq4.keep hfr (by simp)
    obtain ⟨c0, c1, c2, c3, c4, c5, cz⟩ := hBg5.c6
    obtain ⟨d0, d1, d2, d3, d4, d5, dz⟩ := hBq5.c6
    by_cases hlt : k < nl
    · have hdk : decide ((k : Int) < (nl : Int)) = true := by simp; omega
      have hi1 : (0 : Int) ≤ (k : Int) := by omega
      have hi2 : (k : Int) < (nl : Int) := by omega
      obtain ⟨ad, o0, o1, o2, o3, o4, o5, o, rfl, hN, hlk, hck, hov, a0, a1, a2, a3, a4, a5⟩ := HE1.out wr ((HF1.out.trans hf04).trans hfr) k hlt
      obtain ⟨ae, p0, p1, p2, p3, p4, p5, o', rfl, hN', hlk', hck', hov', e0, e1, e2, e3, e4, e5⟩ := HE2.out wr ((HF2.out.trans hf04).trans hfr) k hlt
      obtain rfl : o = o' := by rw [hlk] at hlk'; injection hlk'
      have HC := hide (fun W (h : Fr [] wr W) => HIH.out k _ _ o hck hlk hov' W (((HF1.out.trans hf04).trans hfr).trans h) (((HF2.out.trans hf04).trans hfr).trans h))
      have hk0 : ∀ W, Fr [] wr W → W.cell? ⟨g, 4, none⟩ = some (.slice (some ad) nl cl) ∧ W.cell? ⟨q, 4, none⟩ = some (.slice (some ae) nl cl2) ∧ W.cell? (ad.add (k * 6)) = some o0 ∧ W.cell? ⟨(ad.add (k * 6)).block, (ad.add (k * 6)).off + 1, none⟩ = some o1 ∧ W.cell? ⟨(ad.add (k * 6)).block, (ad.add (k * 6)).off + 2, none⟩ = some o2 ∧ W.cell? ⟨(ad.add (k * 6)).block, (ad.add (k * 6)).off + 3, none⟩ = some o3 ∧ W.cell? ⟨(ad.add (k * 6)).block, (ad.add (k * 6)).off + 4, none⟩ = some o4 ∧ W.cell? ⟨(ad.add (k * 6)).block, (ad.add (k * 6)).off + 5, none⟩ = some o5 ∧ W.cell? (ae.add (k * 6)) = some p0 ∧ W.cell? ⟨(ae.add (k * 6)).block, (ae.add (k * 6)).off + 1, none⟩ = some p1 ∧ W.cell? ⟨(ae.add (k * 6)).block, (ae.add (k * 6)).off + 2, none⟩ = some p2 ∧ W.cell? ⟨(ae.add (k * 6)).block, (ae.add (k * 6)).off + 3, none⟩ = some p3 ∧ W.cell? ⟨(ae.add (k * 6)).block, (ae.add (k * 6)).off + 4, none⟩ = some p4 ∧ W.cell? ⟨(ae.add (k * 6)).block, (ae.add (k * 6)).off + 5, none⟩ = some p5 ∧ Fr [] wr W := fun W h =>
        ⟨h.cell c4 (by simp), h.cell d4 (by simp), h.cell a0 (by simp), h.cell a1 (by simp), h.cell a2 (by simp), h.cell a3 (by simp), h.cell a4 (by simp), h.cell a5 (by simp), h.cell e0 (by simp), h.cell e1 (by simp), h.cell e2 (by simp), h.cell e3 (by simp), h.cell e4 (by simp), h.cell e5 (by simp), h⟩
      have HK0 := hide hk0
      clear hlk hck hov hN hlk' hck' hov' hN' hk0
      go_wp2
      go_region_held3 (fun w' => w'.cell? ⟨g, 4, none⟩ = some (.slice (some ad) nl cl) ∧ w'.cell? ⟨q, 4, none⟩ = some (.slice (some ae) nl cl2) ∧ w'.cell? (ad.add (k * 6)) = some o0 ∧ w'.cell? ⟨(ad.add (k * 6)).block, (ad.add (k * 6)).off + 1, none⟩ = some o1 ∧ w'.cell? ⟨(ad.add (k * 6)).block, (ad.add (k * 6)).off + 2, none⟩ = some o2 ∧ w'.cell? ⟨(ad.add (k * 6)).block, (ad.add (k * 6)).off + 3, none⟩ = some o3 ∧ w'.cell? ⟨(ad.add (k * 6)).block, (ad.add (k * 6)).off + 4, none⟩ = some o4 ∧ w'.cell? ⟨(ad.add (k * 6)).block, (ad.add (k * 6)).off + 5, none⟩ = some o5 ∧ w'.cell? (ae.add (k * 6)) = some p0 ∧ w'.cell? ⟨(ae.add (k * 6)).block, (ae.add (k * 6)).off + 1, none⟩ = some p1 ∧ w'.cell? ⟨(ae.add (k * 6)).block, (ae.add (k * 6)).off + 2, none⟩ = some p2 ∧ w'.cell? ⟨(ae.add (k * 6)).block, (ae.add (k * 6)).off + 3, none⟩ = some p3 ∧ w'.cell? ⟨(ae.add (k * 6)).block, (ae.add (k * 6)).off + 4, none⟩ = some p4 ∧ w'.cell? ⟨(ae.add (k * 6)).block, (ae.add (k * 6)).off + 5, none⟩ = some p5 ∧ Fr [] wr w')
        ((exact HK0.out _ (by repeat (first | with_reducible exact Fr.refl _ _ | with_reducible assumption | with_reducible refine Fr.drewN ?_ _ | with_reducible refine Fr.drew ?_ | with_reducible refine Fr.alloc ?_ _ | ((with_reducible refine Fr.setCell ?_ ?_ _) <;> first | (apply Or.inl; simp; done) | (apply Or.inr; simp; done) | (apply Or.inr; simp; omega) | skip) | (refine Fr.then0 ?_ (by with_reducible assumption)) | (refine Fr.trans ?_ (by with_reducible assumption))))))
        (first
          | (go_simp; go_at_call 25; refine (HC.out _ (by repeat (first | with_reducible exact Fr.refl _ _ | with_reducible assumption | with_reducible refine Fr.drewN ?_ _ | with_reducible refine Fr.drew ?_ | with_reducible refine Fr.alloc ?_ _ | ((with_reducible refine Fr.setCell ?_ ?_ _) <;> first | (apply Or.inl; simp; done) | (apply Or.inr; simp; done) | (apply Or.inr; simp; omega) | skip) | (refine Fr.then0 ?_ (by with_reducible assumption)) | (refine Fr.trans ?_ (by with_reducible assumption))))).mono ?_; rintro e w5 ⟨rfl, hf5⟩))
      all_goals
        go_wp2
        exact ⟨⟨k + 1, by omega, by go_num, hfr.trans (by repeat (first | with_reducible exact Fr.refl _ _ | with_reducible assumption | with_reducible refine Fr.drewN ?_ _ | with_reducible refine Fr.drew ?_ | with_reducible refine Fr.alloc ?_ _ | ((with_reducible refine Fr.setCell ?_ ?_ _) <;> first | (apply Or.inl; simp; done) | (apply Or.inr; simp; done) | (apply Or.inr; simp; omega) | skip) | (refine Fr.then0 ?_ (by with_reducible assumption)) | (refine Fr.trans ?_ (by with_reducible assumption))))⟩, by simp [intOf]; omega⟩
    · have hdk : decide ((k : Int) < (nl : Int)) = false := by simp; omega
      go_wp2
      go_ret
      exact ⟨rfl, hf04.trans hfr⟩
end Go.Proofs.YtdjhjfpeckndkaaGreatDoor
namespace Go.Proofs.YtdjhjfpeckndkaaGreatDoor
open Go.RowKit
def DepthOK (w0 : World) (N : Nat → Prop) (d : Nat) : Prop := ∀ (cs : List Value) (o : PObj), OV w0 N cs o → soundO d false o = true → ∀ w, Fr [] w0 w →
  Calls Tryz.prog 26 #[.agg cs.toArray] w fun e w' => e = .returned (.int .i64 (depthO d o)) ∧ Fr [] w w'
theorem maxL_snoc (l : List Nat) (x : Nat) : maxL (l ++ [x]) = max (maxL l) x := by unfold maxL; rw [List.foldl_append]; rfl
theorem depth_le : ∀ (d : Nat) (o : PObj), depthO d o ≤ d
  | 0, o => by simp [depthO]
  | d + 1, .mk k n t keys list data => by
    simp only [depthO]
    split
    · have : maxL (list.map (depthO d)) ≤ d := by
        rcases Nat.eq_zero_or_pos (maxL (list.map (depthO d))) with h | h
        · omega
        · obtain ⟨x, _, hx⟩ := List.mem_map.1 (maxL_mem h)
          have := depth_le d x
          omega
      omega
    · omega
set_option maxRecDepth 100000 in
set_option maxHeartbeats 1000000 in
theorem depth_simple {kd x : Int} {t : List UInt8} {Ak Al Ad : Option Addr} {nk ck nl cl nd cd : Nat} (w : World) (h6 : (kd != 6) = true) (h7 : (kd != 7) = true) :
    Calls Tryz.prog 26 #[.agg #[.int .i64 kd, .int .i64 x, .string ⟨t.toArray⟩, .slice Ak nk ck, .slice Al nl cl, .slice Ad nd cd]] w fun e w' => e = .returned (.int .i64 0) ∧ Fr [] w w' := by
  go_enter Tryz.func26, Tryz.ntmps26
  go_wp2
  go_ret
  exact ⟨rfl, (by repeat (first | with_reducible exact Fr.refl _ _ | with_reducible assumption | with_reducible refine Fr.drewN ?_ _ | with_reducible refine Fr.drew ?_ | with_reducible refine Fr.alloc ?_ _ | ((with_reducible refine Fr.setCell ?_ ?_ _) <;> first | (apply Or.inl; simp; done) | (apply Or.inr; simp; done) | (apply Or.inr; simp; omega) | skip) | (refine Fr.then0 ?_ (by with_reducible assumption)) | (refine Fr.trans ?_ (by with_reducible assumption))))⟩
set_option maxRecDepth 100000 in
set_option maxHeartbeats 2000000 in
theorem depth_list {w0 : World} {N : Nat → Prop} {d : Nat} (IH : DepthOK w0 N d) {kd x : Int} {t : List UInt8} {Ak Al Ad : Option Addr} {nk ck nl cl nd cd : Nat} {list : List PObj} {css : List (List Value)} (hk67 : kd = 6 ∨ kd = 7) (hl : Rd w0 N 6 Al nl css.flatten) (hcs : css.length = nl) (hll : list.length = nl)
    (ho : ∀ (i : Nat) cs o, css[i]? = some cs → list[i]? = some o → OV w0 N cs o) (hnl : nl ≤ 65535) (hs : ∀ o ∈ list, soundO d false o = true) (hdd : d ≤ 1000) (w : World) (hf : Fr [] w0 w) :
    Calls Tryz.prog 26 #[.agg #[.int .i64 kd, .int .i64 x, .string ⟨t.toArray⟩, .slice Ak nk ck, .slice Al nl cl, .slice Ad nd cd]] w fun e w' => e = .returned (.int .i64 ((maxL (list.map (depthO d)) : Nat) + 1)) ∧ Fr [] w w' := by
  obtain ⟨R, hR⟩ : ∃ R : Nat, R = maxL (list.map (depthO d)) := ⟨_, rfl⟩
  rw [← hR]
  have HR := hide hR
  clear hR
  have HEL := hide (fun (w' : World) (h : Fr [] w0 w') (k : Nat) (hk : k < nl) => ov_elem h hl hcs hll ho hk)
  have HIH := hide IH
  have HLL := hide hll
  have HS := hide hs
  clear IH hl hcs hll ho hs
  have hkk : ((kd != 6) = false) ∨ ((kd != 6) = true ∧ (kd != 7) = false) := by rcases hk67 with rfl | rfl <;> decide
  clear hk67
  rcases hkk with e6 | ⟨e6, e7⟩
  all_goals
    go_enter Tryz.func26, Tryz.ntmps26
    go_wp2
    obtain ⟨g, hg⟩ : ∃ g, g = w.heap.size := ⟨_, rfl⟩
    obtain ⟨W0, hW0⟩ : ∃ W0, W0 = w.alloc (.cells #[.int .i64 kd, .int .i64 x, .string ⟨t.toArray⟩, .slice Ak nk ck, .slice Al nl cl, .slice Ad nd cd] 31) := ⟨_, rfl⟩
    have hB : Blk W0 g 31 #[.int .i64 kd, .int .i64 x, .string ⟨t.toArray⟩, .slice Ak nk ck, .slice Al nl cl, .slice Ad nd cd] := by rw [hW0, hg]; exact Blk.new _ _ _
    have hf0 : Fr [] w W0 := by rw [hW0]; exact (by repeat (first | with_reducible exact Fr.refl _ _ | with_reducible assumption | with_reducible refine Fr.drewN ?_ _ | with_reducible refine Fr.drew ?_ | with_reducible refine Fr.alloc ?_ _ | ((with_reducible refine Fr.setCell ?_ ?_ _) <;> first | (apply Or.inl; simp; done) | (apply Or.inr; simp; done) | (apply Or.inr; simp; omega) | skip) | (refine Fr.then0 ?_ (by with_reducible assumption)) | (refine Fr.trans ?_ (by with_reducible assumption))))
    rw [← hW0, ← hg]
    clear hW0 hg
    go_loopw [4, 3] (fun i m wr => ∃ (k M : Nat), k ≤ nl ∧ i = .int .i64 k ∧ m = .int .i64 M ∧ M ≤ 1000 ∧ Fr [] W0 wr ∧ Hid (M = maxL ((list.map (depthO d)).take k))) (fun i _ _ => nl - (intOf i).toNat)
    case atStart => exact ⟨0, 0, Nat.zero_le _, rfl, rfl, Nat.zero_le _, Fr.refl _ _, hide (by rw [List.take_zero]; rfl)⟩
    case round =>
      obtain ⟨k, M, hk, rfl, rfl, hM, hfr, hrel⟩ := hrel
      have hBr := hB.keep hfr (by simp)
      obtain ⟨c0, c1, c2, c3, c4, c5, cz⟩ := hBr.c6
      by_cases hlt : k < nl
      · have hdk : decide ((k : Int) < (nl : Int)) = true := by simp; omega
        obtain ⟨ad, o0, o1, o2, o3, o4, o5, o, rfl, hN, hlk, hck, hov, a0, a1, a2, a3, a4, a5⟩ := HEL.out wr ((hf.trans hf0).trans hfr) k hlt
        have hmap : (list.map (depthO d))[k]? = some (depthO d o) := by rw [List.getElem?_map, hlk]; rfl
        have HT := hide (by rw [take_snoc hmap, maxL_snoc] : maxL ((list.map (depthO d)).take (k + 1)) = max (maxL ((list.map (depthO d)).take k)) (depthO d o))
        have HC := hide (HIH.out _ o hov (HS.out o (List.mem_of_getElem? hlk)) wr ((hf.trans hf0).trans hfr))
        have hdo := depth_le d o
        clear hlk hck hov hN hmap
        generalize depthO d o = D at *
        by_cases hMD : M < D
        · have hdM : decide ((M : Int) < (D : Int)) = true := by simp; omega
          have hdM2 : decide (M < D) = true := by simpa using hMD
          have HF : Hid (D = maxL ((list.map (depthO d)).take (k + 1))) := by rw [HT.out, ← hrel.out]; exact hide (by omega)
          go_wp2_with (go_at_call 26; refine HC.out.mono ?_; rintro e w2 ⟨rfl, hf2⟩)
          exact ⟨⟨k + 1, D, by omega, by go_num, rfl, by omega, hfr.trans hf2, HF⟩, by simp [intOf]; omega⟩
        · have hdM : decide ((M : Int) < (D : Int)) = false := by simp; omega
          have hdM2 : decide (M < D) = false := by simpa using hMD
          have HF : Hid (M = maxL ((list.map (depthO d)).take (k + 1))) := by rw [HT.out, ← hrel.out]; exact hide (by omega)
          go_wp2_with (go_at_call 26; refine HC.out.mono ?_; rintro e w2 ⟨rfl, hf2⟩)
          exact ⟨⟨k + 1, M, by omega, by go_num, rfl, by omega, hfr.trans hf2, HF⟩, by simp [intOf]; omega⟩
      · have hdk : decide ((k : Int) < (nl : Int)) = false := by simp; omega
        have HF : Hid (M = R) := by
          rw [hrel.out, HR.out, List.take_of_length_le (by rw [List.length_map, HLL.out]; omega)]; rfl
        go_wp2
        go_ret
        exact ⟨by rw [HF.out]; rfl, hf0.then0 hfr⟩
theorem depth_any (w0 : World) (N : Nat → Prop) : ∀ d, d ≤ 1000 → DepthOK w0 N d := by
  intro d
  induction d with
  | zero =>
    intro _ cs o hov hs w hf
    rw [soundO_eq] at hs
    cases hov with
    | mk kd n t Ak nk ck keys Al nl cl list css Ad nd cd data ht hk hks hck hcm hl hcl hlm hcs hll ho hdr hcd hdm =>
    have h6 : kd ≠ 6 := by rintro rfl; have := (sound6 hs).1; simp at this
    have h7 : kd ≠ 7 := by rintro rfl; have := (sound7 hs).1; simp at this
    exact depth_simple w (by simpa using h6) (by simpa using h7)
  | succ d ih =>
    intro hd cs o hov hs w hf
    rw [soundO_eq] at hs
    cases hov with
    | mk kd n t Ak nk ck keys Al nl cl list css Ad nd cd data ht hk hks hck hcm hl hcl hlm hcs hll ho hdr hcd hdm =>
    by_cases h67 : kd = 6 ∨ kd = 7
    · have hall : (∀ o ∈ list, soundO d false o = true) ∧ list.length ≤ 65535 := by
        rcases h67 with rfl | rfl
        · obtain ⟨_, _, _, _, _, a, b⟩ := sound6 hs; exact ⟨b, a⟩
        · obtain ⟨_, _, _, _, _, _, _, a, b⟩ := sound7 hs; exact ⟨b, a⟩
      have hD : depthO (d + 1) (.mk kd n t keys list data) = maxL (list.map (depthO d)) + 1 := by simp only [depthO]; rw [if_pos h67]
      rw [hD]
      exact depth_list (ih (by omega)) h67 hl hcs hll ho (by omega) hall.1 (by omega) w hf
    · have hD : depthO (d + 1) (.mk kd n t keys list data) = 0 := by simp only [depthO]; rw [if_neg h67]
      rw [hD]
      exact depth_simple w (by simp; omega) (by simp; omega)
end Go.Proofs.YtdjhjfpeckndkaaGreatDoor
