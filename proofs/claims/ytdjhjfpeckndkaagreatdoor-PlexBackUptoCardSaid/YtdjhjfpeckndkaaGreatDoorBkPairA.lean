/- Contract: the reader's pairs, over its objects. -/
/- Contract: the reader's object. -/
import Derived.Test.YtdjhjfpeckndkaaGreatDoorBkListA
set_option linter.unusedVariables false
set_option linter.unusedSimpArgs false
namespace Go.Proofs.YtdjhjfpeckndkaaGreatDoor
open Go.RowKit
theorem addr_zero (g j : Nat) : (⟨g, 0, none⟩ : Addr).add j = ⟨g, j, none⟩ := by
  unfold Addr.add
  split <;> simp_all
theorem nameP_len {bs : List UInt8} {k : Nat} {s : List UInt8} {j : Nat} (h : nameP bs k = .ok (s, j)) : s.length ≤ 127 := by
  unfold nameP at h
  split at h
  · cases h
  · split at h
    · cases h
    · split at h
      · cases h
      · injection h with h
        injection h with h1 _
        subst h1
        omega
theorem info_str : (Tryz.prog.info? 9).map (fun i => (i.zero, i.size, i.bytes)) = some (some (.string ⟨#[]⟩), 1, 16) := by kernel_rfl
theorem own_own_ne {w : World} {b1 b2 n1 n2 s1 s2 : Nat} {e1 e2 : TypeId} {v1 v2 : Value} {x1 x2 : List Value} (h1 : w.ownsRow b1 e1 s1 v1 n1 x1) (h2 : w.ownsRow b2 e2 s2 v2 n2 x2) (hne : e1 ≠ e2) {g : Nat} (hg1 : v1.ownBlock = some g) : v2.ownBlock ≠ some g := by
  rcases h1.2 with ⟨rfl, _⟩ | ⟨g', cap, cur, rfl, _, hh, _⟩
  · simp [Value.ownBlock] at hg1
  · have : g' = g := by simpa [Value.ownBlock] using hg1
    subst this
    exact own_blk_ne (t := e1) (cs := cur) h2 hh (Ne.symm hne)
theorem scontains_str (base n c : Nat) (A : Option Addr) (keys : List (List UInt8)) (x : List UInt8) (w : World) (hr : w.ownsRow base 9 1 (.slice A n c) n (keys.map strV)) (hn : n ≤ 4611686018427387904) :
    Calls Tryz.prog 157 #[.slice A n c, .string ⟨x.toArray⟩] w fun e w' => e = .returned (.bool (decide (x ∈ keys))) ∧ w = w' := by
  have hlen : keys.length = n := by have := hr.1; rw [List.length_map] at this; omega
  rcases Nat.eq_zero_or_pos n with h0 | h0
  · subst h0
    have : keys = [] := List.eq_nil_of_length_eq_zero hlen
    subst this
    exact (Tryz.slices_Contains_string_empty A c _ w).mono fun e w' ⟨he, hw⟩ => ⟨by rw [he]; rfl, hw.symm⟩
  · obtain ⟨g, cap, hv, _, _⟩ := hr.form h0
    have hA : A = some ⟨g, 0, none⟩ := by injection hv
    subst hA
    have hc := hr.cells (g := g) rfl
    refine (Tryz.slices_Contains_string g 0 n c (keys.map fun s => ⟨s.toArray⟩) ⟨x.toArray⟩ w (by rw [List.length_map]; omega) (by omega) (fun j hj => ?_)).mono fun e w' ⟨he, hw⟩ => ⟨?_, hw.symm⟩
    · rw [List.length_map] at hj
      have := hc j (.string ⟨keys[j].toArray⟩) (by rw [List.getElem?_map, List.getElem?_eq_getElem hj]; rfl)
      rw [addr_zero] at this
      rw [Nat.zero_add, this, List.getD_eq_getElem?_getD, List.getElem?_map, List.getElem?_eq_getElem hj]
      rfl
    · rw [he, List.take_of_length_le (by rw [List.length_map]; omega)]
      refine ret_bool ?_
      rw [Bool.eq_iff_iff, Lib.containsS_iff, decide_eq_true_iff, List.mem_map]
      constructor
      · rintro ⟨s, hs, he⟩
        have : s = x := by
          have h1 : s.toArray = x.toArray := by injection he
          simpa using h1
        rw [← this]; exact hs
      · exact fun h => ⟨x, h, rfl⟩
theorem fr_dset {r m : Nat} {x : Value} {w1 w2 : World} (h : Fr [r] ((w1.drewN m).setCell ⟨r, 1, none⟩ x) w2) : Fr [r] w1 w2 := (((Fr.refl [r] w1).drewN m).setCell (p := ⟨r, 1, none⟩) (.inl (by simp)) x).trans h
theorem obj_appended {w w5 w6 w7 : World} {B r p q n c j2 : Nat} {A : Option Addr} {refs : Bool} {bs : List UInt8} {kd : Int} {vk : Value} {nk : Nat} {ks : List Value} {Av Av' : Option Addr} {cv cv' : Nat} {acc : List PObj} {css : List (List Value)} {o0 o1 o2 o3 o4 o5 : Value} {o : PObj}
    (hrB : r < B) (hpB : p < B) (hqB : q < B) (hpq : p ≠ q) (hrp : r ≠ p) (hrq : r ≠ q) (hA : ∀ ad, A = some ad → 0 < n → ad.block < B ∧ ad.block ≠ q) (hB5 : B ≤ w5.heap.size)
    (hst : St w6 r A n c j2 refs bs) (hbp : Blk w6 p 31 zerosP) (hbq : Blk w6 q 31 #[.int .i64 kd, .int .i64 0, .string ⟨#[]⟩, vk, .slice Av acc.length cv, .slice none 0 0])
    (hol : OL w5 B (vk.ownBlock.toList ++ (Value.slice Av acc.length cv).ownBlock.toList) (.slice Av acc.length cv) acc css) (hok : w6.ownsRow B 9 1 vk nk ks)
    (hf : Fr [r] w5 w6) (hov : OV w6 (fun g => w5.heap.size ≤ g) [o0, o1, o2, o3, o4, o5] o)
    (hown7 : w7.ownsRow B 31 6 (.slice Av' (acc.length + 1) cv') (acc.length + 1) (css.flatten ++ [o0, o1, o2, o3, o4, o5])) (hg7 : (w6.alloc (.cells #[o0, o1, o2, o3, o4, o5] 31)).grownBy w7 (Value.slice Av acc.length cv).ownBlock)
    (hb7 : (Value.slice Av' (acc.length + 1) cv').ownBlock = (Value.slice Av acc.length cv).ownBlock ∨ (Value.slice Av' (acc.length + 1) cv').ownBlock = some (w6.alloc (.cells #[o0, o1, o2, o3, o4, o5] 31)).heap.size)
    (hk5 : ∀ g ∈ vk.ownBlock.toList, g < w5.heap.size)
    (hfr : Fr [r] w w6) (hwB : w.heap.size ≤ B) (hwq : w.heap.size ≤ q) :
    (St (w7.setCell ⟨q, 4, none⟩ (.slice Av' (acc.length + 1) cv')) r A n c j2 refs bs ∧ Blk (w7.setCell ⟨q, 4, none⟩ (.slice Av' (acc.length + 1) cv')) p 31 zerosP ∧
      Blk (w7.setCell ⟨q, 4, none⟩ (.slice Av' (acc.length + 1) cv')) q 31 #[.int .i64 kd, .int .i64 0, .string ⟨#[]⟩, vk, .slice Av' (acc.length + 1) cv', .slice none 0 0] ∧
      OL (w7.setCell ⟨q, 4, none⟩ (.slice Av' (acc.length + 1) cv')) B (vk.ownBlock.toList ++ (Value.slice Av' (acc.length + 1) cv').ownBlock.toList) (.slice Av' (acc.length + 1) cv') (acc ++ [o]) (css ++ [[o0, o1, o2, o3, o4, o5]]) ∧
      (w7.setCell ⟨q, 4, none⟩ (.slice Av' (acc.length + 1) cv')).ownsRow B 9 1 vk nk ks ∧ Fr [r] w (w7.setCell ⟨q, 4, none⟩ (.slice Av' (acc.length + 1) cv')) ∧ B ≤ (w7.setCell ⟨q, 4, none⟩ (.slice Av' (acc.length + 1) cv')).heap.size) ∧
    Blk w7 q 31 #[.int .i64 kd, .int .i64 0, .string ⟨#[]⟩, vk, .slice Av acc.length cv, .slice none 0 0] := by
  have hlr : ∀ g ∈ (Value.slice Av acc.length cv).ownBlock.toList, B ≤ g ∧ g < w5.heap.size := fun g hg => by
    have he : (Value.slice Av acc.length cv).ownBlock = some g := by simpa using hg
    exact ⟨own_base hol.own g he, own_lt hol.own g he⟩
  have hlq : ∀ g ∈ (Value.slice Av acc.length cv).ownBlock.toList, g ≠ r ∧ g ≠ p ∧ g ≠ q := fun g hg => by have := hlr g hg; omega
  have hq3 : Blk w7 q 31 #[.int .i64 kd, .int .i64 0, .string ⟨#[]⟩, vk, .slice Av acc.length cv, .slice none 0 0] := (hbq.alloc _).grown hg7 (fun e => (hlq q (by simpa using e.symm)).2.2 rfl)
  have hp3 : Blk w7 p 31 zerosP := (hbp.alloc _).grown hg7 (fun e => (hlq p (by simpa using e.symm)).2.1 rfl)
  have hf7 : Fr (Value.slice Av acc.length cv).ownBlock.toList w6 w7 := ((Fr.refl _ w6).alloc _).grown hg7 (fun g hg => .inl (by rw [hg]; simp))
  have hst3 : St w7 r A n c j2 refs bs := hst.keepA hf7 (fun hm => (hlq r hm).1 rfl) (fun ad h1 h2 hm => by have := (hlr _ hm).1; have := (hA ad h1 h2).1; omega)
  have hol6 := hol.keep hf (fun g hg => by rw [List.mem_singleton.1 hg]; exact own_below hol.own hrB) (fun g hg => .inl (by rw [List.mem_singleton.1 hg]; exact hrB))
  have hs56 := hf.size
  have hol3 : OL w7 B (vk.ownBlock.toList ++ (Value.slice Av' (acc.length + 1) cv').ownBlock.toList) (.slice Av' (acc.length + 1) cv') (acc ++ [o]) (css ++ [[o0, o1, o2, o3, o4, o5]]) := by
    have hf7' : Fr (vk.ownBlock.toList ++ (Value.slice Av acc.length cv).ownBlock.toList) w6 w7 := hf7.mono fun g hg => .inl (List.mem_append_right _ hg)
    refine hol6.snoc hf7' hown7 (fun g hg => ?_) hov hB5 hf7' (fun g hg => ?_) (fun g hg => ?_)
    · rcases List.mem_append.1 hg with hg | hg
      · exact .inl (List.mem_append_left _ hg)
      · rcases hb7 with hb | hb
        · rw [hb] at hg; exact .inl (List.mem_append_right _ hg)
        · right; rw [hb, World.size_alloc] at hg; simp at hg; omega
    · rcases List.mem_append.1 hg with hg | hg
      · exact hk5 g hg
      · exact (hlr g hg).2
    · rcases List.mem_append.1 hg with hg | hg
      · exact .inl (hk5 g hg)
      · rcases hb7 with hb | hb
        · left; rw [hb] at hg; exact (hlr g hg).2
        · right; rw [hb, World.size_alloc] at hg; simp at hg; omega
  have hok7 : w7.ownsRow B 9 1 vk nk ks := own_keep hok hf7 (fun g hg => own_own_ne hol6.own hok (by decide) (by simpa using hg))
  have hfr3 : Fr [r] w w7 := hfr.trans' hf7 (fun g hg => .inr (by have := (hlr g hg).1; omega))
  have hfx : Fr [q] w7 (w7.setCell ⟨q, 4, none⟩ (.slice Av' (acc.length + 1) cv')) := (Fr.refl [q] w7).setCell (.inl (by simp)) _
  have hq4 := hq3.set_ 4 (.slice Av' (acc.length + 1) cv')
  refine ⟨⟨hst3.keepA hfx (by simpa using hrq) (fun ad h1 h2 => by simpa using (hA ad h1 h2).2), hp3.keep hfx (by simpa using hpq), by simpa using hq4,
    hol3.keep hfx (fun g hg => by rw [List.mem_singleton.1 hg]; exact own_below hown7 hqB) (fun g hg => .inl (by rw [List.mem_singleton.1 hg]; exact hqB)),
    own_keep hok7 hfx (fun g hg => by rw [List.mem_singleton.1 hg]; exact own_below hok7 hqB), hfr3.trans' hfx (fun g hg => .inr (by rw [List.mem_singleton.1 hg]; exact hwq)), ?_⟩, hq3⟩
  have := hf7.size
  have := hfx.size
  omega
set_option maxRecDepth 100000 in
set_option maxHeartbeats 4000000 in
theorem pairs_any (F : Nat) (H : ∀ f, f < F → ObjOK f) (r n c k : Nat) (A : Option Addr) (refs : Bool) (bs : List UInt8) (deep : Int) (w : World) (hs : St w r A n c k refs bs) (hdp : deep ≤ 4611686018427387904) (h99 : pairsP F bs refs deep k [] [] ≠ .error 99) :
    Calls Tryz.prog 122 #[.pointer (some ⟨r, 0, none⟩), .int .i64 deep] w (ObjR w r A n c refs bs (pairsP F bs refs deep k [] [])) := by
  obtain ⟨R, hR⟩ : ∃ R, R = pairsP F bs refs deep k [] [] := ⟨_, rfl⟩
  rw [← hR] at h99 ⊢
  have HR := hide hR
  have H99 := hide h99
  clear hR h99
  have HO := hide H
  clear H
  go_enter Tryz.func122, Tryz.ntmps122
  go_wp2
  obtain ⟨W0, hW0⟩ : ∃ W0, W0 = (w.alloc (.cells zerosP 31)).alloc (.cells #[.int .i64 7, .int .i64 0, .string ⟨#[]⟩, .slice none 0 0, .slice none 0 0, .slice none 0 0] 31) := ⟨_, rfl⟩
  have hs0 : St W0 r A n c k refs bs := by rw [hW0]; exact hs.keep0 (by repeat (first | with_reducible exact Fr.refl _ _ | with_reducible assumption | with_reducible refine Fr.drewN ?_ _ | with_reducible refine Fr.drew ?_ | with_reducible refine Fr.alloc ?_ _ | ((with_reducible refine Fr.setCell ?_ ?_ _) <;> first | (apply Or.inl; simp; done) | (apply Or.inr; simp; done) | (apply Or.inr; simp; omega) | skip) | (refine Fr.then0 ?_ (by with_reducible assumption)) | (refine Fr.trans ?_ (by with_reducible assumption))))
  have hf0 : Fr [r] w W0 := by rw [hW0]; exact (by repeat (first | with_reducible exact Fr.refl _ _ | with_reducible assumption | with_reducible refine Fr.drewN ?_ _ | with_reducible refine Fr.drew ?_ | with_reducible refine Fr.alloc ?_ _ | ((with_reducible refine Fr.setCell ?_ ?_ _) <;> first | (apply Or.inl; simp; done) | (apply Or.inr; simp; done) | (apply Or.inr; simp; omega) | skip) | (refine Fr.then0 ?_ (by with_reducible assumption)) | (refine Fr.trans ?_ (by with_reducible assumption))))
  have hBp : Blk W0 w.heap.size 31 zerosP := by rw [hW0]; exact (Blk.new _ _ _).alloc _
  have hBq : Blk W0 (w.heap.size + 1) 31 #[.int .i64 7, .int .i64 0, .string ⟨#[]⟩, .slice none 0 0, .slice none 0 0, .slice none 0 0] := by rw [hW0]; exact Blk.new2 _ _ _ (by rw [World.size_alloc])
  rw [← hW0]
  clear hW0
  have hpq : w.heap.size ≠ w.heap.size + 1 := by omega
  have hrp : r ≠ w.heap.size := by have := hs.blk.lt; omega
  have hrq : r ≠ w.heap.size + 1 := by have := hs.blk.lt; omega
  have hpl := hBp.lt
  have hql := hBq.lt
  have hwp : w.heap.size ≤ w.heap.size := Nat.le_refl _
  have hwq : w.heap.size ≤ w.heap.size + 1 := by omega
  generalize w.heap.size + 1 = q at *
  obtain ⟨p, hp⟩ : ∃ p, p = w.heap.size := ⟨_, rfl⟩
  have hwp' : w.heap.size ≤ p := by omega
  rw [← hp] at hBp hpq hrp hpl ⊢
  clear hp hwp
  have hpr := Ne.symm hrp
  have hqr := Ne.symm hrq
  have hqp := Ne.symm hpq
  have hrb : r < W0.heap.size := hs0.blk.lt
  have hAp : ∀ ad, A = some ad → 0 < n → ad.block ≠ p := fun ad h1 h2 => by have := (hs.blockA ad h1 h2).1; omega
  have HAP := hide hAp
  have HAB := hide (fun ad (h1 : A = some ad) (h2 : 0 < n) => (hs.blockA ad h1 h2).1)
  clear hAp
  go_loopg [] F (fun g wr => ∃ (k' : Nat) (keys : List (List UInt8)) (acc : List PObj) (css : List (List Value)) (vk v : Value), St wr r A n c k' refs bs ∧ Blk wr p 31 zerosP ∧ Blk wr q 31 #[.int .i64 7, .int .i64 0, .string ⟨#[]⟩, vk, v, .slice none 0 0] ∧
    wr.ownsRow W0.heap.size 9 1 vk keys.length (keys.map strV) ∧ OL wr W0.heap.size (vk.ownBlock.toList ++ v.ownBlock.toList) v acc css ∧ (∀ s ∈ keys, s.length ≤ 127) ∧ keys.length = acc.length ∧ acc.length ≤ 65535 ∧ Fr [r] w wr ∧ W0.heap.size ≤ wr.heap.size ∧ g ≤ F ∧ Hid (pairsP g bs refs deep k' keys acc = R))
  case atStart => exact ⟨k, [], [], [], .slice none 0 0, .slice none 0 0, hs0, hBp, hBq, own_nil _ _ _ _, OL.nil _ _ _, by simp, rfl, Nat.zero_le _, hf0, Nat.le_refl _, Nat.le_refl _, HR.out.symm⟩
  case round =>
    obtain ⟨k', keys, acc, css, vk, v, hst, hbp, hbq, hownk, hol, hkl, hka, hal, hfr, hsz, hgF, hrel⟩ := hrel
    obtain ⟨Av, cv, rfl⟩ := own_slice hol.own
    obtain ⟨Ak, ck, rfl⟩ := own_slice hownk
    have hown := hol.own
    have hpl2 : p < wr.heap.size := hbp.lt
    match gk, hgF, hrel with
    | 0, hgF, hrel => exact absurd hrel.out.symm (by rw [pairsP]; exact fun h => H99.out h)
    | g + 1, hgF, hrel =>
    have hsm := hst.small
    have HKA := hide hka
    clear hka
    have hlr1 : ∀ g ∈ (Value.slice Av acc.length cv).ownBlock.toList, W0.heap.size ≤ g ∧ g < wr.heap.size := fun g hg => by
      have he : (Value.slice Av acc.length cv).ownBlock = some g := by simpa using hg
      exact ⟨own_base hown g he, own_lt hown g he⟩
    have hlr2 : ∀ g ∈ (Value.slice Ak keys.length ck).ownBlock.toList, W0.heap.size ≤ g ∧ g < wr.heap.size := fun g hg => by
      have he : (Value.slice Ak keys.length ck).ownBlock = some g := by simpa using hg
      exact ⟨own_base hownk g he, own_lt hownk g he⟩
    have HL1 := hide hlr1
    have HL2 := hide hlr2
    clear hlr1 hlr2
    cases hu : bs[skipF bs k']? with
    | none =>
      have HE : Hid (R = .error 24) := by rw [← hrel.out, pairsP, hu]; rfl
      have HSK := hide (skip_end' r n c k' A refs bs wr hst hu)
      clear hu
      go_wp2_with (go_at_call 154; refine HSK.out.mono ?_; rintro e w1 ⟨rfl, hf1⟩)
      rw [HE.out]
      exact ⟨rfl, rfl, hfr.trans hf1⟩
    | some u =>
      have HSK := hide (skip_ok r n c k' A refs bs u wr hst hu)
      have hj : skipF bs k' < n := by have := (List.getElem?_eq_some_iff.1 hu).1; rw [hst.len] at this; exact this
      have HU := hide hu
      clear hu
      by_cases h62 : u.toNat = 62
      · have hd : ((u.toNat : Int) == 62) = true := by simp; omega
        cases hu2 : bs[skipF bs k' + 1]? with
        | none =>
          have HE : Hid (R = .error 24) := by rw [← hrel.out, pairsP, HU.out]; simp only; rw [if_pos h62, hu2]; rfl
          have hge : n ≤ skipF bs k' + 1 := by have := List.getElem?_eq_none_iff.1 hu2; rw [hst.len] at this; exact this
          have hd2 : decide ((n : Int) ≤ (skipF bs k' : Int) + 1) = true := by simp; omega
          clear h62 hu2
          generalize skipF bs k' = j at *
          go_wp2_with (go_at_call 154; refine HSK.out.mono ?_; rintro e w1 ⟨rfl, hs1, hf1⟩; obtain ⟨c0, c1, c2, cz⟩ := hs1.blk.c3)
          go_quiet (fail)
          go_wp2_with (go_at_call 119; refine (fail_any _ _).mono ?_; rintro e w2 ⟨rfl, rfl⟩)
          rw [HE.out]
          exact ⟨rfl, rfl, (hfr.trans hf1).drewN _⟩
        | some d =>
          have hlt2 : skipF bs k' + 1 < n := by have := (List.getElem?_eq_some_iff.1 hu2).1; rw [hst.len] at this; exact this
          have hd2 : decide ((n : Int) ≤ (skipF bs k' : Int) + 1) = false := by simp; omega
          have hi1 : (0 : Int) ≤ (skipF bs k' : Int) + 1 := by omega
          have hi2 : (skipF bs k' : Int) + 1 < (n : Int) := by omega
          have hi3 : ((skipF bs k' : Int) + 1).toNat = skipF bs k' + 1 := by omega
          have HU2 := hide hu2
          by_cases h622 : d.toNat = 62
          · have HE : Hid (R = .ok (.mk 7 0 [] keys acc [], skipF bs k' + 2)) := by rw [← hrel.out, pairsP, HU.out]; simp only; rw [if_pos h62, hu2]; simp only; rw [if_pos h622]; rfl
            have hd3 : ((d.toNat : Int) == 62) = true := by simp; omega
            clear h62 hu2 h622
            generalize skipF bs k' = j at *
            go_wp2_with (go_at_call 154; refine HSK.out.mono ?_; rintro e w1 ⟨rfl, hs1, hf1⟩; obtain ⟨c0, c1, c2, cz⟩ := hs1.blk.c3; have hbq1 := hbq.keep hf1 (by simpa using hqr); have hbp1 := hbp.keep hf1 (by simpa using hpr); obtain ⟨d0, d1, d2, d3, d4, d5, dz⟩ := hbq1.c6; obtain ⟨e0, e1, e2, e3, e4, e5, ez⟩ := hbp1.c6)
            have hfin : ∀ m, ObjR w r A n c refs bs (.ok (.mk 7 0 [] keys acc [], j + 2)) (.returned (.agg #[.int .i64 7, .int .i64 0, .string ⟨#[]⟩, .slice Ak keys.length ck, .slice Av acc.length cv, .slice none 0 0]))
                ((((((((w1.drewN m).setCell ⟨r, 1, none⟩ (.int .i64 ((j : Int) + 2))).setCell ⟨p, 0, none⟩ (.int .i64 7)).setCell ⟨p, 1, none⟩ (.int .i64 0)).setCell ⟨p, 2, none⟩ (.string ⟨#[]⟩)).setCell ⟨p, 3, none⟩ (.slice Ak keys.length ck)).setCell ⟨p, 4, none⟩ (.slice Av acc.length cv)).setCell ⟨p, 5, none⟩ (.slice none 0 0)) := fun m => by
              have hfx := obj_frame (v0 := .int .i64 7) (v1 := .int .i64 0) (v2 := .string ⟨#[]⟩) (v3 := .slice Ak keys.length ck) (v4 := .slice Av acc.length cv) (v5 := .slice none 0 0) (Fr.refl [p] ((w1.drewN m).setCell ⟨r, 1, none⟩ (.int .i64 ((j : Int) + 2)))) (g := p) (.inl (by simp))
              have hfr1 := ((Fr.refl [r] w1).drewN m).setCell (p := ⟨r, 1, none⟩) (.inl (by simp)) (.int .i64 ((j : Int) + 2))
              have hf1' := hf1.trans hfr1
              have hol2 := (hol.keep hf1' (fun g hg => by rw [List.mem_singleton.1 hg]; exact own_below hown hrb) (fun g hg => .inl (by rw [List.mem_singleton.1 hg]; exact hrb))).keep hfx (fun g hg => by rw [List.mem_singleton.1 hg]; exact own_below hown hpl) (fun g hg => .inl (by rw [List.mem_singleton.1 hg]; exact hpl))
              have hok2 := own_keep (own_keep hownk hf1' (fun g hg => by rw [List.mem_singleton.1 hg]; exact own_below hownk hrb)) hfx (fun g hg => by rw [List.mem_singleton.1 hg]; exact own_below hownk hpl)
              obtain ⟨hc1, hc2⟩ := own_caps hok2
              refine ⟨_, _, _, _, _, _, rfl, hol2.ov (by omega) 7 keys Ak keys.length ck (Rd.of_own hok2) (fun s hs => by have := hkl s hs; unfold maxLen; omega) hc1 hc2, ((hs1.keep0 ((Fr.refl _ _).drewN m)).set_ (j + 2) (by omega)).obj hpr HAP.out, ?_⟩
              exact obj_frame (((hfr.trans hf1).drewN m).setCell (p := ⟨r, 1, none⟩) (.inl (by simp)) _) (.inr hwp')
            have HFIN := hide hfin
            clear hfin
            obtain ⟨ad, hA, hadr, hcb⟩ := hs1.rb.at2 HU2.out
            subst hA
            have hcb2 : w1.cell? ⟨ad.block, ad.off + (j + 1), none⟩ = some (.int .u8 d.toNat) := by
              have := hcb
              unfold Addr.add at this
              simpa using this
            go_quiet (fail)
            go_wp2
            have hw1 : IntKind.i64.wrap ((j : Int) + 1) = (j : Int) + 1 := IntWalk.i64_in _ (by omega)
            go_quiet (fail)
            clear hw1
            go_wp2
            have hbp2 := hbp1.far (p := ⟨r, 1, none⟩) hpr (.int .i64 ((j : Int) + 2))
            have hlp := hbp2.lt
            have hlp' := Nat.ne_of_lt hlp
            refine bodyPost_ret (v := .agg #[.int .i64 7, .int .i64 0, .string ⟨#[]⟩, .slice Ak keys.length ck, .slice Av acc.length cv, .slice none 0 0]) (by simp [results, Tryz.results122, go_sem, e0, e1, e2, e3, e4, e5, d0, d1, d2, d3, d4, d5]) rfl ?_
            rw [HE.out]
            exact HFIN.out _
          · have HE : Hid (R = .error 23) := by rw [← hrel.out, pairsP, HU.out]; simp only; rw [if_pos h62, hu2]; simp only; rw [if_neg h622]; rfl
            have hd3 : ((d.toNat : Int) == 62) = false := by simp; omega
            have hd47 : ((u.toNat : Int) != 47) = true := by simp; omega
            clear h62 hu2 h622
            generalize skipF bs k' = j at *
            go_wp2_with (go_at_call 154; refine HSK.out.mono ?_; rintro e w1 ⟨rfl, hs1, hf1⟩; obtain ⟨c0, c1, c2, cz⟩ := hs1.blk.c3)
            obtain ⟨ad, hA, hadr, hcb⟩ := hs1.rb.at2 HU2.out
            subst hA
            have hcb2 : w1.cell? ⟨ad.block, ad.off + (j + 1), none⟩ = some (.int .u8 d.toNat) := by
              have := hcb
              unfold Addr.add at this
              simpa using this
            go_quiet (fail)
            go_wp2
            have hw1 : IntKind.i64.wrap ((j : Int) + 1) = (j : Int) + 1 := IntWalk.i64_in _ (by omega)
            go_quiet (fail)
            clear hw1
            go_wp2_with (go_at_call 119; refine (fail_any _ _).mono ?_; rintro e w2 ⟨rfl, rfl⟩)
            rw [HE.out]
            exact ⟨rfl, rfl, (hfr.trans hf1).drewN _⟩
      · have hd : ((u.toNat : Int) == 62) = false := by simp; omega
        by_cases h47 : u.toNat = 47
        · have hd47 : ((u.toNat : Int) != 47) = false := by simp; omega
          have HE : Hid (R = match nameP bs (skipF bs k' + 1) with | .error e => .error e | .ok (s, j1) => if s ∈ keys then .error 23 else if 65535 ≤ acc.length then .error 25 else match bs[skipF bs j1]? with | none => .error 24 | some _ => match objP g bs refs deep (skipF bs j1) with | .error e => .error e | .ok (o, j2) => pairsP g bs refs deep j2 (keys ++ [s]) (acc ++ [o])) := by
            rw [← hrel.out, pairsP, HU.out]; simp only; rw [if_neg h62, if_pos h47]; rfl
          clear h62 h47
          generalize skipF bs k' = j at *
          have HN := hide (fun W (h : St W r A n c (j + 1) refs bs) => name_any r n c (j + 1) A refs bs W h)
          have hnl := fun s j1 (h : nameP bs (j + 1) = .ok (s, j1)) => nameP_len h
          generalize nameP bs (j + 1) = RN at *
          cases RN with
          | error x =>
            go_wp2_with (go_at_call 154; refine HSK.out.mono ?_; rintro e w1 ⟨rfl, hs1, hf1⟩; obtain ⟨c0, c1, c2, cz⟩ := hs1.blk.c3)
            go_quiet (fail)
            go_wp2
            go_quiet (fail)
            have hst1 := fun m => (hs1.keep0 ((Fr.refl _ _).drewN m)).set_ (j + 1) (by omega)
            have hfs1 := fun m => ((hfr.trans hf1).drewN m).setCell (p := ⟨r, 1, none⟩) (.inl (by simp)) (.int .i64 ((j : Int) + 1))
            go_wp2_with (go_at_call 118; refine (HN.out _ (hst1 _)).mono ?_; rintro e w2 ⟨rfl, hf2⟩)
            rw [HE.out]
            exact ⟨rfl, rfl, (hfs1 _).trans hf2⟩
          | ok sj =>
            obtain ⟨s, j1⟩ := sj
            have hsl := hnl s j1 rfl
            clear hnl
            have hkl47 : keys.length ≤ 65535 := by rw [HKA.out]; exact hal
            by_cases hin : s ∈ keys
            · have HE2 : Hid (R = .error 23) := by rw [HE.out]; simp only; rw [if_pos hin]; rfl
              have hdin : decide (s ∈ keys) = true := by simpa using hin
              clear hin HE
              go_wp2_with (go_at_call 154; refine HSK.out.mono ?_; rintro e w1 ⟨rfl, hs1, hf1⟩; obtain ⟨c0, c1, c2, cz⟩ := hs1.blk.c3)
              go_quiet (fail)
              go_wp2
              go_quiet (fail)
              have hst1 := fun m => (hs1.keep0 ((Fr.refl _ _).drewN m)).set_ (j + 1) (by omega)
              go_wp2_with (first
                | (go_at_call 118; refine (HN.out _ (hst1 _)).mono ?_; rintro e w2 ⟨rfl, hs2, hf2⟩; have hf12 := hf1.trans (fr_dset hf2); have hbq2 := hbq.keep hf12 (by simpa using hqr); obtain ⟨d0, d1, d2, d3, d4, d5, dz⟩ := hbq2.c6; have hownk2 := own_keep hownk hf12 (fun g hg => by rw [List.mem_singleton.1 hg]; exact own_below hownk hrb))
                | (go_at_call 157; refine (scontains_str W0.heap.size keys.length ck Ak keys s _ hownk2 (by omega)).mono ?_; rintro e w3 ⟨rfl, rfl⟩)
                | (go_at_call 119; refine (fail_any _ _).mono ?_; rintro e w4 ⟨rfl, rfl⟩))
              rw [HE2.out]
              exact ⟨rfl, rfl, hfr.trans hf12⟩
            · have hdin : decide (s ∈ keys) = false := by simpa using hin
              by_cases hbig : 65535 ≤ acc.length
              · have HE2 : Hid (R = .error 25) := by rw [HE.out]; simp only; rw [if_neg hin, if_pos hbig]; rfl
                have hd65 : decide ((65535 : Int) ≤ (acc.length : Int)) = true := by simp; omega
                clear hin HE
                go_wp2_with (go_at_call 154; refine HSK.out.mono ?_; rintro e w1 ⟨rfl, hs1, hf1⟩; obtain ⟨c0, c1, c2, cz⟩ := hs1.blk.c3)
                go_quiet (fail)
                go_wp2
                go_quiet (fail)
                have hst1 := fun m => (hs1.keep0 ((Fr.refl _ _).drewN m)).set_ (j + 1) (by omega)
                go_wp2_with (first
                  | (go_at_call 118; refine (HN.out _ (hst1 _)).mono ?_; rintro e w2 ⟨rfl, hs2, hf2⟩; have hf12 := hf1.trans (fr_dset hf2); have hbq2 := hbq.keep hf12 (by simpa using hqr); obtain ⟨d0, d1, d2, d3, d4, d5, dz⟩ := hbq2.c6; have hownk2 := own_keep hownk hf12 (fun g hg => by rw [List.mem_singleton.1 hg]; exact own_below hownk hrb))
                  | (go_at_call 157; refine (scontains_str W0.heap.size keys.length ck Ak keys s _ hownk2 (by omega)).mono ?_; rintro e w3 ⟨rfl, rfl⟩)
                  | (go_at_call 119; refine (fail_any _ _).mono ?_; rintro e w4 ⟨rfl, rfl⟩))
                rw [HE2.out]
                exact ⟨rfl, rfl, hfr.trans hf12⟩
              · have hd65 : decide ((65535 : Int) ≤ (acc.length : Int)) = false := by simp; omega
                have HE2 : Hid (R = match bs[skipF bs j1]? with | none => .error 24 | some _ => match objP g bs refs deep (skipF bs j1) with | .error e => .error e | .ok (o, j2) => pairsP g bs refs deep j2 (keys ++ [s]) (acc ++ [o])) := by
                  rw [HE.out]; simp only; rw [if_neg hin, if_neg hbig]; rfl
                have HIN := hide hin
                clear hin HE
                go_wp2_with (go_at_call 154; refine HSK.out.mono ?_; rintro e w1 ⟨rfl, hs1, hf1⟩; obtain ⟨c0, c1, c2, cz⟩ := hs1.blk.c3)
                go_quiet (fail)
                go_wp2
                go_quiet (fail)
                have hst1 := fun m => (hs1.keep0 ((Fr.refl _ _).drewN m)).set_ (j + 1) (by omega)
                obtain ⟨i1, hi1, hy0, hy1, hy2⟩ := info_parts info_str
                go_wp2_with (first
                  | (go_at_call 118; refine (HN.out _ (hst1 _)).mono ?_; rintro e w2 ⟨rfl, hs2, hf2⟩; have hf12 := hf1.trans (fr_dset hf2); have hbq2 := hbq.keep hf12 (by simpa using hqr); obtain ⟨d0, d1, d2, d3, d4, d5, dz⟩ := hbq2.c6; have hownk2 := own_keep hownk hf12 (fun g hg => by rw [List.mem_singleton.1 hg]; exact own_below hownk hrb))
                  | (go_at_call 157; refine (scontains_str W0.heap.size keys.length ck Ak keys s _ hownk2 (by omega)).mono ?_; rintro e w3 ⟨rfl, rfl⟩)
                  | (at_builtin; refine wpList_append_any (P := Tryz.prog) _ rfl (.tmp 77) (.tmp 79) _ rfl W0.heap.size 9 i1 _ 1 16 Tryz.underlying28 hi1 hy0 hy1 hy2 rfl (by omega) (.slice Ak keys.length ck) keys.length (keys.map strV) rfl (own_keep hownk2 ((Fr.refl [] w2).alloc _) (by simp)) (fun g => g = w2.heap.size) (some ⟨w2.heap.size, 0, none⟩) 1 1 [strV s] rfl (rd_new w2 _ _ 1 1 rfl) (by simp [Value.oneCell']) (by unfold maxLen; omega) (by omega) (by rw [World.size_alloc]; have := hf12.size; omega) ?_; intro v1 w3 hown3 hg3 hb3; obtain ⟨Ak', ck', rfl⟩ := own_slice hown3; have hq3 := (hbq2.alloc (.cells #[.string ⟨s.toArray⟩] 9)).grown hg3 (fun e => by have := (HL2.out q (by simpa using e.symm)).1; omega); obtain ⟨x0, x1, x2, x3, x4, x5, xz⟩ := hq3.c6))
                have hf23 : Fr (Value.slice Ak keys.length ck).ownBlock.toList w2 w3 := ((Fr.refl _ w2).alloc _).grown hg3 (fun g hg => .inl (by rw [hg]; simp))
                have hqf : Fr [q] w3 (w3.setCell ⟨q, 3, none⟩ (.slice Ak' (keys.length + 1) ck')) := (Fr.refl [q] w3).setCell (.inl (by simp)) _
                have hkn : ∀ g ∈ (Value.slice Ak keys.length ck).ownBlock.toList, g ≠ r ∧ g ≠ p ∧ g ≠ q := fun g hg => by have := HL2.out g hg; omega
                have hst3 : St w3 r A n c j1 refs bs := hs2.keepA hf23 (fun hm => (hkn r hm).1 rfl) (fun ad h1 h2 hm => by have := (HL2.out _ hm).1; have := HAB.out ad h1 h2; have := hf0.size; omega)
                have hst4 := hst3.keepA hqf (by simpa using hrq) (fun ad h1 h2 => by have := HAB.out ad h1 h2; simp; omega)
                have hbp4 := (((hbp.keep hf12 (by simpa using hpr)).keep hf23 (fun hm => (hkn p hm).2.1 rfl)).keep hqf (by simpa using hpq))
                have hbq4 : Blk (w3.setCell ⟨q, 3, none⟩ (.slice Ak' (keys.length + 1) ck')) q 31 #[.int .i64 7, .int .i64 0, .string ⟨#[]⟩, .slice Ak' (keys.length + 1) ck', .slice Av acc.length cv, .slice none 0 0] := by simpa using hq3.set_ 3 (.slice Ak' (keys.length + 1) ck')
                have hok4 : (w3.setCell ⟨q, 3, none⟩ (.slice Ak' (keys.length + 1) ck')).ownsRow W0.heap.size 9 1 (.slice Ak' (keys.length + 1) ck') (keys ++ [s]).length ((keys ++ [s]).map strV) := by
                  have h1 := own_keep hown3 hqf (fun g hg => by rw [List.mem_singleton.1 hg]; exact own_below hown3 hql)
                  simpa using h1
                have hX4 : ∀ g, g ∈ (Value.slice Ak' (keys.length + 1) ck').ownBlock.toList ++ (Value.slice Av acc.length cv).ownBlock.toList → g ∈ (Value.slice Ak keys.length ck).ownBlock.toList ++ (Value.slice Av acc.length cv).ownBlock.toList ∨ w2.heap.size ≤ g := fun g hg => by
                  rcases List.mem_append.1 hg with hg | hg
                  · rcases hb3 with hb | hb
                    · left; rw [← hb]; exact List.mem_append_left _ hg
                    · right; rw [hb, World.size_alloc] at hg; simp at hg; omega
                  · left; exact List.mem_append_right _ hg
                have hol2 := hol.keep hf12 (fun g hg => by rw [List.mem_singleton.1 hg]; exact own_below hown hrb) (fun g hg => .inl (by rw [List.mem_singleton.1 hg]; exact hrb))
                have hol3 := hol2.keepX hf23 (fun g hg => own_own_ne hownk hown (by decide) (by simpa using hg)) (fun g hg => .inr (List.mem_append_left _ hg)) hX4
                have hol4 := hol3.keep hqf (fun g hg => by rw [List.mem_singleton.1 hg]; exact own_below hown hql) (fun g hg => .inl (by rw [List.mem_singleton.1 hg]; exact hql))
                have hfr4 : Fr [r] w (w3.setCell ⟨q, 3, none⟩ (.slice Ak' (keys.length + 1) ck')) := ((hfr.trans hf12).trans' hf23 (fun g hg => .inr (by have := (HL2.out g hg).1; have := hf0.size; omega))).trans' hqf (fun g hg => .inr (by rw [List.mem_singleton.1 hg]; exact hwq))
                have hsz4 : W0.heap.size ≤ (w3.setCell ⟨q, 3, none⟩ (.slice Ak' (keys.length + 1) ck')).heap.size := Nat.le_trans hsz (Nat.le_trans hf12.size (Nat.le_trans hf23.size hqf.size))
                clear hst3 hol3 hol2 hX4 hkn hqf hf23 hq3 x0 x1 x2 x3 x4 x5 xz hb3 hg3 hown3 hownk2 d0 d1 d2 d3 d4 d5 dz hbq2 hs2 hf2 hf12
                generalize w3.setCell ⟨q, 3, none⟩ (.slice Ak' (keys.length + 1) ck') = W4 at *
                have hks : ∀ x ∈ keys ++ [s], x.length ≤ 127 := fun x hx => by
                  rcases List.mem_append.1 hx with hx | hx
                  · exact hkl x hx
                  · rw [List.mem_singleton.1 hx]; exact hsl
                cases hu3 : bs[skipF bs j1]? with
                | none =>
                  have HE3 : Hid (R = .error 24) := by rw [HE2.out, hu3]; rfl
                  have HSK3 := hide (skip_end' r n c j1 A refs bs W4 hst4 hu3)
                  clear hu3
                  refine HSK3.out.mono ?_
                  rintro e w5 ⟨rfl, hf5⟩
                  go_wp2
                  rw [HE3.out]
                  exact ⟨rfl, rfl, hfr4.trans hf5⟩
                | some u3 =>
                  have HE : Hid (R = match objP g bs refs deep (skipF bs j1) with | .error e => .error e | .ok (o, j2) => pairsP g bs refs deep j2 (keys ++ [s]) (acc ++ [o])) := by rw [HE2.out, hu3]; rfl
                  have HSK3 := hide (skip_ok r n c j1 A refs bs u3 W4 hst4 hu3)
                  have hj3 : skipF bs j1 < n := by have := (List.getElem?_eq_some_iff.1 hu3).1; rw [hst4.len] at this; exact this
                  clear hu3 HE2
                  generalize skipF bs j1 = j3 at *
                  have HOB := hide (fun W (h : St W r A n c j3 refs bs) (h9 : objP g bs refs deep j3 ≠ .error 99) => HO.out g (by omega) r n c j3 A refs bs deep W h hj3 hdp h9)
                  have h9 : objP g bs refs deep j3 ≠ .error 99 := fun h => by rw [h] at HE; exact H99.out HE.out
                  have H9 := hide h9
                  clear h9
                  refine HSK3.out.mono ?_
                  rintro e w5 ⟨rfl, hs5, hf5⟩
                  have hbq5 := hbq4.keep hf5 (by simpa using hqr)
                  obtain ⟨d0, d1, d2, d3, d4, d5, dz⟩ := hbq5.c6
                  go_wp2_with fail
                  generalize objP g bs refs deep j3 = RO at *
                  cases RO with
                  | error x =>
                    have HOX := hide (fun W (h : St W r A n c j3 refs bs) => HOB.out W h H9.out)
                    have hfin : ∀ w6, Fr [r] w5 w6 → ObjR w r A n c refs bs R (panicE x) w6 := fun w6 h => by rw [HE.out]; exact ⟨rfl, (hfr4.trans hf5).trans h⟩
                    have HFIN := hide hfin
                    clear hfin
                    refine wp_region_any (by kernel_rfl) ?_
                    change wpAny _ _ _ _ _ _ _ (World.drew _)
                    (refine wpAny_take (i := 0) (v := ?_) rfl (by kernel_rfl) (by kernel_rfl) (by kernel_rfl) (fun _ _ _ h => h) (Or.inl ⟨by rfl, ?_⟩) ?_; rotate_left; (first | (intro w; go_simp; done) | (intro w; go_simp; with_reducible rfl)))
                    (refine wpAny_take (i := 2) (v := ?_) rfl (by kernel_rfl) (by kernel_rfl) (by kernel_rfl) (fun _ _ _ h => h) (Or.inl ⟨by rfl, ?_⟩) ?_; rotate_left; (first | (intro w; go_simp; done) | (intro w; go_simp; with_reducible rfl)))
                    (refine wpAny_take (i := 3) (v := ?_) rfl (by kernel_rfl) (by kernel_rfl) (by kernel_rfl) (fun _ _ _ h => h) (Or.inl ⟨by rfl, ?_⟩) ?_; rotate_left; (first | (intro w; go_simp; done) | (intro w; go_simp; with_reducible rfl)))
                    refine wpAny_ready (rs := [1, 4]) (by kernel_rfl) (by simp) ?_
                    refine AllReady.cons rfl (fun K hK => ?_) (AllReady.cons rfl (fun K hK => ?_) AllReady.nil)
                    · go_simp
                      refine hK _ _ ?_
                      clear hK K
                      refine wpAny_ready (rs := [4]) (by kernel_rfl) (by simp) ?_
                      refine AllReady.cons rfl (fun K hK => ?_) AllReady.nil
                      go_simp
                      go_wp2_with (go_at_call 68; refine (HOX.out _ (hs5.keep0 ((Fr.refl _ _).drew))).mono ?_; rintro e w6 ⟨rfl, hf6⟩; exact ⟨rfl, HFIN.out _ hf6.drew_left⟩)
                    · go_simp
                      go_wp2_with (go_at_call 68; refine (HOX.out _ (hs5.keep0 ((Fr.refl _ _).drew))).mono ?_; rintro e w6 ⟨rfl, hf6⟩; exact ⟨rfl, HFIN.out _ hf6.drew_left⟩)
                  | ok oj =>
                    obtain ⟨o, j2⟩ := oj
                    have HOX := hide (fun W (h : St W r A n c j3 refs bs) => HOB.out W h H9.out)
                    refine wp_region_any (by kernel_rfl) ?_
                    change wpAny _ _ _ _ _ _ _ (World.drew _)
                    (refine wpAny_take (i := 0) (v := ?_) rfl (by kernel_rfl) (by kernel_rfl) (by kernel_rfl) (fun _ _ _ h => h) (Or.inl ⟨by rfl, ?_⟩) ?_; rotate_left; (first | (intro w; go_simp; done) | (intro w; go_simp; with_reducible rfl)))
                    (refine wpAny_take (i := 2) (v := ?_) rfl (by kernel_rfl) (by kernel_rfl) (by kernel_rfl) (fun _ _ _ h => h) (Or.inl ⟨by rfl, ?_⟩) ?_; rotate_left; (first | (intro w; go_simp; done) | (intro w; go_simp; with_reducible rfl)))
                    (refine wpAny_take (i := 3) (v := ?_) rfl (by kernel_rfl) (by kernel_rfl) (by kernel_rfl) (fun _ _ _ h => h) (Or.inl ⟨by rfl, ?_⟩) ?_; rotate_left; (first | (intro w; go_simp; done) | (intro w; go_simp; with_reducible rfl)))
                    refine wpAny_ready (rs := [1, 4]) (by kernel_rfl) (by simp) ?_
                    refine AllReady.cons rfl (fun K hK => ?_) (AllReady.cons rfl (fun K hK => ?_) AllReady.nil)
                    · go_simp
                      refine hK _ _ ?_
                      clear hK K
                      refine wpAny_ready (rs := [4]) (by kernel_rfl) (by simp) ?_
                      refine AllReady.cons rfl (fun K hK => ?_) AllReady.nil
                      go_simp
                      go_wp2_with (go_at_call 68; refine (HOX.out _ (hs5.keep0 ((Fr.refl _ _).drew))).mono ?_; rintro e w6 ⟨o0, o1, o2, o3, o4, o5, rfl, hov, hs6, hf6⟩)
                      obtain ⟨i0, hi0, hz0, hz1, hz2⟩ := info_parts info_obj
                      have hf6' : Fr [r] w5 w6 := Fr.drew_left hf6
                      have hol5 := hol4.keep hf5 (fun g hg => by rw [List.mem_singleton.1 hg]; exact own_below hol4.own hrb) (fun g hg => .inl (by rw [List.mem_singleton.1 hg]; exact hrb))
                      have hown6 : w6.ownsRow W0.heap.size 31 6 (.slice Av acc.length cv) acc.length css.flatten := own_keep hol5.own hf6' (fun g hg => by rw [List.mem_singleton.1 hg]; exact own_below hol5.own hrb)
                      have hok6 := own_keep (own_keep hok4 hf5 (fun g hg => by rw [List.mem_singleton.1 hg]; exact own_below hok4 hrb)) hf6' (fun g hg => by rw [List.mem_singleton.1 hg]; exact own_below hok4 hrb)
                      have hbq6 := hbq5.drew.keep hf6 (by simpa using hqr)
                      have hbp6 := ((hbp4.keep hf5 (by simpa using hpr)).drew.keep hf6 (by simpa using hpr))
                      have hbw : W0.heap.size ≤ w6.heap.size := Nat.le_trans hsz4 (Nat.le_trans hf5.size hf6.size)
                      refine wpAny_ready (rs := [5]) (by kernel_rfl) (by simp) ?_
                      refine AllReady.cons rfl (fun K hK => ?_) AllReady.nil
                      go_simp
                      refine hK _ _ ?_
                      clear hK K
                      refine wpAny_ready (rs := [6]) (by kernel_rfl) (by simp) ?_
                      refine AllReady.cons rfl (fun K hK => ?_) AllReady.nil
                      refine step_append_any (P := Tryz.prog) _ (by rfl) _ _ _ (by rfl) W0.heap.size 31 i0 _ 6 104 Tryz.underlying29 hi0 hz0 hz1 hz2 rfl (by omega) (.slice Av acc.length cv) acc.length css.flatten (by rfl) (own_keep hown6 ((Fr.refl [] w6).alloc _) (by simp)) (fun g => g = w6.heap.size) (some ⟨w6.heap.size, 0, none⟩) 1 1 [o0, o1, o2, o3, o4, o5] (by rfl) (rd_new w6 _ _ 1 6 rfl) (ov_one hov) (by unfold maxLen; omega) (by omega) (by rw [World.size_alloc]; omega) ?_
                      intro v' w7 hown7 hg7 hb7
                      obtain ⟨Av', cv', rfl⟩ := own_slice hown7
                      obtain ⟨hfin, hq7⟩ := obj_appended hrb hpl hql hpq hrp hrq (fun ad h1 h2 => by have := HAB.out ad h1 h2; omega) (Nat.le_trans hsz4 hf5.size) hs6 hbp6 hbq6 hol5 hok6 hf6' hov hown7 hg7 hb7 (fun g hg => by have := own_lt hok4 g (by simpa using hg); have := hf5.size; omega) ((hfr4.trans hf5).trans hf6') hf0.size hwq
                      have HFIN := hide hfin
                      clear hfin hb7 hg7 hown7
                      obtain ⟨x0, x1, x2, x3, x4, x5, xz⟩ := hq7.c6
                      clear hq7
                      refine hK _ _ ?_
                      clear hK K
                      refine wpAny_ready (rs := [7]) (by kernel_rfl) (by simp) ?_
                      refine AllReady.cons rfl (fun K hK => ?_) AllReady.nil
                      go_simp
                      refine hK _ _ ?_
                      clear hK K
                      refine wpAny_ready (rs := [8]) (by kernel_rfl) (by simp) ?_
                      refine AllReady.cons rfl (fun K hK => ?_) AllReady.nil
                      go_simp
                      refine hK _ _ ?_
                      clear hK K
                      refine wpAny_done (by kernel_rfl) ?_ _
                      go_wp2
                      go_roundg g
                      case measure => exact Nat.lt_succ_self g
                      case rel =>
                        obtain ⟨hst8, hp8, hq8, hol8, hok8, hfr8, hsz8⟩ := HFIN.out
                        exact ⟨j2, keys ++ [s], acc ++ [o], _, _, _, hst8, hp8, hq8, hok8, hol8, hks, by simp [HKA.out], by simp; omega, hfr8, hsz8, by omega, HE.out.symm⟩
                    · go_simp
                      go_wp2_with (go_at_call 68; refine (HOX.out _ (hs5.keep0 ((Fr.refl _ _).drew))).mono ?_; rintro e w6 ⟨o0, o1, o2, o3, o4, o5, rfl, hov, hs6, hf6⟩)
                      obtain ⟨i0, hi0, hz0, hz1, hz2⟩ := info_parts info_obj
                      have hf6' : Fr [r] w5 w6 := Fr.drew_left hf6
                      have hol5 := hol4.keep hf5 (fun g hg => by rw [List.mem_singleton.1 hg]; exact own_below hol4.own hrb) (fun g hg => .inl (by rw [List.mem_singleton.1 hg]; exact hrb))
                      have hown6 : w6.ownsRow W0.heap.size 31 6 (.slice Av acc.length cv) acc.length css.flatten := own_keep hol5.own hf6' (fun g hg => by rw [List.mem_singleton.1 hg]; exact own_below hol5.own hrb)
                      have hok6 := own_keep (own_keep hok4 hf5 (fun g hg => by rw [List.mem_singleton.1 hg]; exact own_below hok4 hrb)) hf6' (fun g hg => by rw [List.mem_singleton.1 hg]; exact own_below hok4 hrb)
                      have hbq6 := hbq5.drew.keep hf6 (by simpa using hqr)
                      have hbp6 := ((hbp4.keep hf5 (by simpa using hpr)).drew.keep hf6 (by simpa using hpr))
                      have hbw : W0.heap.size ≤ w6.heap.size := Nat.le_trans hsz4 (Nat.le_trans hf5.size hf6.size)
                      have hq1d : (w6.alloc (.cells #[o0, o1, o2, o3, o4, o5] 31)).cell? ⟨q, 4, none⟩ = some (.slice Av acc.length cv) := by rw [(hbq6.alloc _).cell]; rfl
                      have hq1c : w6.cell? ⟨q, 4, none⟩ = some (.slice Av acc.length cv) := by rw [hbq6.cell]; rfl
                      refine wpAny_ready (rs := [1, 5]) (by kernel_rfl) (by simp) ?_
                      refine AllReady.cons rfl (fun K hK => ?_) (AllReady.cons rfl (fun K hK => ?_) AllReady.nil)
                      · go_simp
                        refine hK _ _ ?_
                        clear hK K hq1c hq1d
                        refine wpAny_ready (rs := [5]) (by kernel_rfl) (by simp) ?_
                        refine AllReady.cons rfl (fun K hK => ?_) AllReady.nil
                        go_simp
                        refine hK _ _ ?_
                        clear hK K
                        refine wpAny_ready (rs := [6]) (by kernel_rfl) (by simp) ?_
                        refine AllReady.cons rfl (fun K hK => ?_) AllReady.nil
                        refine step_append_any (P := Tryz.prog) _ (by rfl) _ _ _ (by rfl) W0.heap.size 31 i0 _ 6 104 Tryz.underlying29 hi0 hz0 hz1 hz2 rfl (by omega) (.slice Av acc.length cv) acc.length css.flatten (by rfl) (own_keep hown6 ((Fr.refl [] w6).alloc _) (by simp)) (fun g => g = w6.heap.size) (some ⟨w6.heap.size, 0, none⟩) 1 1 [o0, o1, o2, o3, o4, o5] (by rfl) (rd_new w6 _ _ 1 6 rfl) (ov_one hov) (by unfold maxLen; omega) (by omega) (by rw [World.size_alloc]; omega) ?_
                        intro v' w7 hown7 hg7 hb7
                        obtain ⟨Av', cv', rfl⟩ := own_slice hown7
                        obtain ⟨hfin, hq7⟩ := obj_appended hrb hpl hql hpq hrp hrq (fun ad h1 h2 => by have := HAB.out ad h1 h2; omega) (Nat.le_trans hsz4 hf5.size) hs6 hbp6 hbq6 hol5 hok6 hf6' hov hown7 hg7 hb7 (fun g hg => by have := own_lt hok4 g (by simpa using hg); have := hf5.size; omega) ((hfr4.trans hf5).trans hf6') hf0.size hwq
                        have HFIN := hide hfin
                        clear hfin hb7 hg7 hown7
                        obtain ⟨x0, x1, x2, x3, x4, x5, xz⟩ := hq7.c6
                        clear hq7
                        refine hK _ _ ?_
                        clear hK K
                        refine wpAny_ready (rs := [7]) (by kernel_rfl) (by simp) ?_
                        refine AllReady.cons rfl (fun K hK => ?_) AllReady.nil
                        go_simp
                        refine hK _ _ ?_
                        clear hK K
                        refine wpAny_ready (rs := [8]) (by kernel_rfl) (by simp) ?_
                        refine AllReady.cons rfl (fun K hK => ?_) AllReady.nil
                        go_simp
                        refine hK _ _ ?_
                        clear hK K
                        refine wpAny_done (by kernel_rfl) ?_ _
                        go_wp2
                        go_roundg g
                        case measure => exact Nat.lt_succ_self g
                        case rel =>
                          obtain ⟨hst8, hp8, hq8, hol8, hok8, hfr8, hsz8⟩ := HFIN.out
                          exact ⟨j2, keys ++ [s], acc ++ [o], _, _, _, hst8, hp8, hq8, hok8, hol8, hks, by simp [HKA.out], by simp; omega, hfr8, hsz8, by omega, HE.out.symm⟩
                      · go_simp
                        refine hK _ _ ?_
                        clear hK K
                        refine wpAny_ready (rs := [1]) (by kernel_rfl) (by simp) ?_
                        refine AllReady.cons rfl (fun K hK => ?_) AllReady.nil
                        go_simp
                        refine hK _ _ ?_
                        clear hK K
                        clear hq1c hq1d
                        refine wpAny_ready (rs := [6]) (by kernel_rfl) (by simp) ?_
                        refine AllReady.cons rfl (fun K hK => ?_) AllReady.nil
                        refine step_append_any (P := Tryz.prog) _ (by rfl) _ _ _ (by rfl) W0.heap.size 31 i0 _ 6 104 Tryz.underlying29 hi0 hz0 hz1 hz2 rfl (by omega) (.slice Av acc.length cv) acc.length css.flatten (by rfl) (own_keep hown6 ((Fr.refl [] w6).alloc _) (by simp)) (fun g => g = w6.heap.size) (some ⟨w6.heap.size, 0, none⟩) 1 1 [o0, o1, o2, o3, o4, o5] (by rfl) (rd_new w6 _ _ 1 6 rfl) (ov_one hov) (by unfold maxLen; omega) (by omega) (by rw [World.size_alloc]; omega) ?_
                        intro v' w7 hown7 hg7 hb7
                        obtain ⟨Av', cv', rfl⟩ := own_slice hown7
                        obtain ⟨hfin, hq7⟩ := obj_appended hrb hpl hql hpq hrp hrq (fun ad h1 h2 => by have := HAB.out ad h1 h2; omega) (Nat.le_trans hsz4 hf5.size) hs6 hbp6 hbq6 hol5 hok6 hf6' hov hown7 hg7 hb7 (fun g hg => by have := own_lt hok4 g (by simpa using hg); have := hf5.size; omega) ((hfr4.trans hf5).trans hf6') hf0.size hwq
                        have HFIN := hide hfin
                        clear hfin hb7 hg7 hown7
                        obtain ⟨x0, x1, x2, x3, x4, x5, xz⟩ := hq7.c6
                        clear hq7
                        refine hK _ _ ?_
                        clear hK K
                        refine wpAny_ready (rs := [7]) (by kernel_rfl) (by simp) ?_
                        refine AllReady.cons rfl (fun K hK => ?_) AllReady.nil
                        go_simp
                        refine hK _ _ ?_
                        clear hK K
                        refine wpAny_ready (rs := [8]) (by kernel_rfl) (by simp) ?_
                        refine AllReady.cons rfl (fun K hK => ?_) AllReady.nil
                        go_simp
                        refine hK _ _ ?_
                        clear hK K
                        refine wpAny_done (by kernel_rfl) ?_ _
                        go_wp2
                        go_roundg g
                        case measure => exact Nat.lt_succ_self g
                        case rel =>
                          obtain ⟨hst8, hp8, hq8, hol8, hok8, hfr8, hsz8⟩ := HFIN.out
                          exact ⟨j2, keys ++ [s], acc ++ [o], _, _, _, hst8, hp8, hq8, hok8, hol8, hks, by simp [HKA.out], by simp; omega, hfr8, hsz8, by omega, HE.out.symm⟩
        · have HE : Hid (R = .error 23) := by rw [← hrel.out, pairsP, HU.out]; simp only; rw [if_neg h62, if_neg h47]; rfl
          have hd47 : ((u.toNat : Int) != 47) = true := by simp; omega
          clear h62 h47
          go_wp2_with (go_at_call 154; refine HSK.out.mono ?_; rintro e w1 ⟨rfl, hs1, hf1⟩; obtain ⟨c0, c1, c2, cz⟩ := hs1.blk.c3)
          go_quiet (fail)
          go_wp2
          go_quiet (fail)
          go_wp2_with (go_at_call 119; refine (fail_any _ _).mono ?_; rintro e w2 ⟨rfl, rfl⟩)
          rw [HE.out]
          exact ⟨rfl, rfl, (hfr.trans hf1).drewN _⟩
end Go.Proofs.YtdjhjfpeckndkaaGreatDoor
namespace Go.Proofs.YtdjhjfpeckndkaaGreatDoor
open Go.RowKit
theorem wordO_simple {bs : List UInt8} {refs : Bool} {k : Nat} {o : PObj} {j : Nat} (h : wordO bs refs k = (some o, j)) : ∃ kd x, o = simpleO kd x [] := by
  unfold wordO at h
  simp only at h
  split at h
  · injection h with h _; injection h with h; exact ⟨_, _, h.symm⟩
  · split at h
    · injection h with h _; injection h with h; exact ⟨_, _, h.symm⟩
    · split at h
      · injection h with h _; injection h with h; exact ⟨_, _, h.symm⟩
      · split at h
        · injection h with h _; injection h with h; exact ⟨_, _, h.symm⟩
        · split at h
          · injection h with h _; injection h with h; exact ⟨_, _, h.symm⟩
          · injection h with h _; cases h
theorem textP_len {bs : List UInt8} {k : Nat} {s : List UInt8} {j : Nat} (h : textP bs k = .ok (s, j)) : s.length ≤ 65535 := by
  unfold textP at h
  split at h <;> split at h
  · cases h
  · split at h
    · cases h
    · injection h with h; injection h with h1 _; subst h1; omega
  · split at h <;> cases h
  · split at h
    · cases h
    · injection h with h; injection h with h1 _; subst h1; omega
/-- A result that is no list. -/
theorem objR_simple {w w' : World} {r : Nat} {A : Option Addr} {n c : Nat} {refs : Bool} {bs : List UInt8} {kd x : Int} {t : List UInt8} {j : Nat} (ht : t.length ≤ maxLen) (hs : St w' r A n c j refs bs) (hf : Fr [r] w w') :
    ObjR w r A n c refs bs (.ok (simpleO kd x t, j)) (.returned (pobjV kd x t)) w' :=
  ⟨_, _, _, _, _, _, rfl, OV.simple w' _ kd x t ht, hs, hf⟩
theorem object_wordR (f r n c k : Nat) (A : Option Addr) (refs : Bool) (bs : List UInt8) (deep : Int) (u : UInt8) (w : World) (hs : St w r A n c k refs bs) (hu : bs[k]? = some u)
    (h47 : ¬ u.toNat = 47) (h91 : ¬ u.toNat = 91) (h40 : ¬ u.toNat = 40) (h60 : ¬ u.toNat = 60) (h9 : objP (f + 1) bs refs deep k ≠ .error 99) :
    Calls Tryz.prog 68 #[.pointer (some ⟨r, 0, none⟩), .int .i64 deep] w (ObjR w r A n c refs bs (objP (f + 1) bs refs deep k)) := by
  have hE : objP (f + 1) bs refs deep k = if wordBad bs refs k then .error 99 else match wordO bs refs k with | (some o, j) => .ok (o, j) | (none, _) => .error 23 := by
    rw [objP, hu]; simp only; rw [if_neg h47, if_neg h91, if_neg h40, if_neg h60]; rfl
  cases hb : wordBad bs refs k
  · rw [hb] at hE
    simp only [Bool.false_eq_true, if_false] at hE
    rw [hE]
    refine (object_word r n c k A refs bs deep u w hs hb hu (by simp; omega) (by simp; omega) (by simp; omega) (by simp; omega)).mono fun e w' h => ?_
    cases hw : wordO bs refs k with
    | mk o j =>
      rw [hw] at h
      cases o with
      | none => exact h
      | some o =>
        obtain ⟨kd, x, rfl⟩ := wordO_simple hw
        obtain ⟨rfl, h2, h3⟩ := h
        exact objR_simple (Nat.zero_le _) h2 h3
  · rw [hb] at hE
    exact absurd hE h9
end Go.Proofs.YtdjhjfpeckndkaaGreatDoor
