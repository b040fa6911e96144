/- Contract: the reader's list, over its objects. -/
import Derived.Test.YtdjhjfpeckndkaaGreatDoorBkOVal
import Derived.Test.YtdjhjfpeckndkaaGreatDoorBkApp
set_option linter.unusedVariables false
set_option linter.unusedSimpArgs false
namespace Go.Proofs.YtdjhjfpeckndkaaGreatDoor
open Go.RowKit
abbrev zerosP : Array Value := #[.int .i64 0, .int .i64 0, .string ⟨#[]⟩, .slice none 0 0, .slice none 0 0, .slice none 0 0]
set_option maxRecDepth 100000 in
set_option maxHeartbeats 2000000 in
theorem list_any (F : Nat) (H : ∀ f, f < F → ObjOK f) (r n c k : Nat) (A : Option Addr) (refs : Bool) (bs : List UInt8) (deep : Int) (w : World) (hs : St w r A n c k refs bs) (hdp : deep ≤ 4611686018427387904) (h99 : listP F bs refs deep k [] ≠ .error 99) :
    Calls Tryz.prog 120 #[.pointer (some ⟨r, 0, none⟩), .int .i64 deep] w (ObjR w r A n c refs bs (listP F bs refs deep k [])) := by
  obtain ⟨R, hR⟩ : ∃ R, R = listP F bs refs deep k [] := ⟨_, rfl⟩
  rw [← hR] at h99 ⊢
  have HR := hide hR
  have H99 := hide h99
  clear hR h99
  have HO := hide H
  clear H
  go_enter Tryz.func120, Tryz.ntmps120
  go_wp2
  obtain ⟨W0, hW0⟩ : ∃ W0, W0 = (w.alloc (.cells zerosP 31)).alloc (.cells #[.int .i64 6, .int .i64 0, .string ⟨#[]⟩, .slice none 0 0, .slice none 0 0, .slice none 0 0] 31) := ⟨_, rfl⟩
  have hs0 : St W0 r A n c k refs bs := by rw [hW0]; exact hs.keep0 (by repeat (first | with_reducible exact Fr.refl _ _ | with_reducible assumption | with_reducible refine Fr.drewN ?_ _ | with_reducible refine Fr.drew ?_ | with_reducible refine Fr.alloc ?_ _ | ((with_reducible refine Fr.setCell ?_ ?_ _) <;> first | (apply Or.inl; simp; done) | (apply Or.inr; simp; done) | (apply Or.inr; simp; omega) | skip) | (refine Fr.then0 ?_ (by with_reducible assumption)) | (refine Fr.trans ?_ (by with_reducible assumption))))
  have hf0 : Fr [r] w W0 := by rw [hW0]; exact (by repeat (first | with_reducible exact Fr.refl _ _ | with_reducible assumption | with_reducible refine Fr.drewN ?_ _ | with_reducible refine Fr.drew ?_ | with_reducible refine Fr.alloc ?_ _ | ((with_reducible refine Fr.setCell ?_ ?_ _) <;> first | (apply Or.inl; simp; done) | (apply Or.inr; simp; done) | (apply Or.inr; simp; omega) | skip) | (refine Fr.then0 ?_ (by with_reducible assumption)) | (refine Fr.trans ?_ (by with_reducible assumption))))
  have hBp : Blk W0 w.heap.size 31 zerosP := by rw [hW0]; exact (Blk.new _ _ _).alloc _
  have hBq : Blk W0 (w.heap.size + 1) 31 #[.int .i64 6, .int .i64 0, .string ⟨#[]⟩, .slice none 0 0, .slice none 0 0, .slice none 0 0] := by rw [hW0]; exact Blk.new2 _ _ _ (by rw [World.size_alloc])
  rw [← hW0]
  clear hW0
  have hpq : w.heap.size ≠ w.heap.size + 1 := by omega
  have hrp : r ≠ w.heap.size := by have := hs.blk.lt; omega
  have hrq : r ≠ w.heap.size + 1 := by have := hs.blk.lt; omega
  have hpl := hBp.lt
  have hql := hBq.lt
  have hwp : w.heap.size ≤ w.heap.size := Nat.le_refl _
  have hwq : w.heap.size ≤ w.heap.size + 1 := by omega
  generalize w.heap.size + 1 = q at *
  obtain ⟨p, hp⟩ : ∃ p, p = w.heap.size := ⟨_, rfl⟩
  have hwp' : w.heap.size ≤ p := by omega
  rw [← hp] at hBp hpq hrp hpl ⊢
  clear hp hwp
  have hpr := Ne.symm hrp
  have hqr := Ne.symm hrq
  have hqp := Ne.symm hpq
  have hrb : r < W0.heap.size := hs0.blk.lt
  have hAp : ∀ ad, A = some ad → 0 < n → ad.block ≠ p := fun ad h1 h2 => by have := (hs.blockA ad h1 h2).1; omega
  have HAP := hide hAp
  have HAB := hide (fun ad (h1 : A = some ad) (h2 : 0 < n) => (hs.blockA ad h1 h2).1)
  clear hAp
  go_loopg [] F (fun g wr => ∃ (k' : Nat) (acc : List PObj) (css : List (List Value)) (v : Value), St wr r A n c k' refs bs ∧ Blk wr p 31 zerosP ∧ Blk wr q 31 #[.int .i64 6, .int .i64 0, .string ⟨#[]⟩, .slice none 0 0, v, .slice none 0 0] ∧
    OL wr W0.heap.size v.ownBlock.toList v acc css ∧ Fr [r] w wr ∧ W0.heap.size ≤ wr.heap.size ∧ g ≤ F ∧ Hid (listP g bs refs deep k' acc = R))
  case atStart => exact ⟨k, [], [], .slice none 0 0, hs0, hBp, hBq, OL.nil _ _ _, hf0, Nat.le_refl _, Nat.le_refl _, HR.out.symm⟩
  case round =>
    obtain ⟨k', acc, css, v, hst, hbp, hbq, hol, hfr, hsz, hgF, hrel⟩ := hrel
    obtain ⟨Av, cv, rfl⟩ := own_slice hol.own
    have hown := hol.own
    have hpl2 : p < wr.heap.size := hbp.lt
    match gk, hgF, hrel with
    | 0, hgF, hrel => exact absurd hrel.out.symm (by rw [listP]; exact fun h => H99.out h)
    | g + 1, hgF, hrel =>
    cases hu : bs[skipF bs k']? with
    | none =>
      have HE : Hid (R = .error 24) := by rw [← hrel.out, listP, hu]; rfl
      have HSK := hide (skip_end' r n c k' A refs bs wr hst hu)
      clear hu
      go_wp2_with (go_at_call 154; refine HSK.out.mono ?_; rintro e w1 ⟨rfl, hf1⟩)
      rw [HE.out]
      exact ⟨rfl, rfl, hfr.trans hf1⟩
    | some u =>
      have HSK := hide (skip_ok r n c k' A refs bs u wr hst hu)
      have hj : skipF bs k' < n := by have := (List.getElem?_eq_some_iff.1 hu).1; rw [hst.len] at this; exact this
      have HU := hide hu
      clear hu
      by_cases h93 : u.toNat = 93
      · have HE : Hid (R = .ok (.mk 6 0 [] [] acc [], skipF bs k' + 1)) := by rw [← hrel.out, listP, HU.out]; simp only; rw [if_pos h93]; rfl
        have hd : ((u.toNat : Int) != 93) = false := by simp; omega
        have hsm := hst.small
        clear h93
        generalize skipF bs k' = j at *
        go_wp2_with (go_at_call 154; refine HSK.out.mono ?_; rintro e w1 ⟨rfl, hs1, hf1⟩; obtain ⟨c0, c1, c2, cz⟩ := hs1.blk.c3; have hbq1 := hbq.keep hf1 (by simpa using Ne.symm hrq); have hbp1 := hbp.keep hf1 (by simpa using Ne.symm hrp); obtain ⟨d0, d1, d2, d3, d4, d5, dz⟩ := hbq1.c6; obtain ⟨e0, e1, e2, e3, e4, e5, ez⟩ := hbp1.c6)
        have hbp2 := hbp1.far (p := ⟨r, 1, none⟩) hpr (.int .i64 ((j : Int) + 1))
        have hlp := hbp2.lt
        have hlp' := Nat.ne_of_lt hlp
        refine bodyPost_ret (v := .agg #[.int .i64 6, .int .i64 0, .string ⟨#[]⟩, .slice none 0 0, .slice Av acc.length cv, .slice none 0 0]) (by simp [results, Tryz.results120, go_sem, e0, e1, e2, e3, e4, e5, d0, d1, d2, d3, d4, d5]) rfl ?_
        rw [HE.out]
        have hfx := obj_frame (v0 := .int .i64 6) (v1 := .int .i64 0) (v2 := .string ⟨#[]⟩) (v3 := .slice none 0 0) (v4 := .slice Av acc.length cv) (v5 := .slice none 0 0) (Fr.refl [p] (w1.setCell ⟨r, 1, none⟩ (.int .i64 ((j : Int) + 1)))) (g := p) (.inl (by simp))
        have hfr1 := (Fr.refl [r] w1).setCell (p := ⟨r, 1, none⟩) (.inl (by simp)) (.int .i64 ((j : Int) + 1))
        have hol2 := ((hol.keep hf1 (fun g hg => by rw [List.mem_singleton.1 hg]; exact own_below hown hrb) (fun g hg => .inl (by rw [List.mem_singleton.1 hg]; exact hrb))).keep hfr1 (fun g hg => by rw [List.mem_singleton.1 hg]; exact own_below hown hrb) (fun g hg => .inl (by rw [List.mem_singleton.1 hg]; exact hrb))).keep hfx (fun g hg => by rw [List.mem_singleton.1 hg]; exact own_below hown hpl) (fun g hg => .inl (by rw [List.mem_singleton.1 hg]; exact hpl))
        refine ⟨_, _, _, _, _, _, rfl, hol2.ov (by omega) 6 [] none 0 0 Rd.nil (by simp) (Nat.le_refl _) (Nat.zero_le _), (hs1.set_ (j + 1) (by omega)).obj hpr HAP.out, ?_⟩
        exact obj_frame ((hfr.trans hf1).setCell (p := ⟨r, 1, none⟩) (.inl (by simp)) _) (.inr hwp')
      · have hd : ((u.toNat : Int) != 93) = true := by simp; omega
        by_cases hbig : 65535 ≤ acc.length
        · have HE : Hid (R = .error 25) := by rw [← hrel.out, listP, HU.out]; simp only; rw [if_neg h93, if_pos hbig]; rfl
          have hd2 : decide ((65535 : Int) ≤ (acc.length : Int)) = true := by simp; omega
          clear h93
          generalize skipF bs k' = j at *
          go_wp2_with (first
            | (go_at_call 154; refine HSK.out.mono ?_; rintro e w1 ⟨rfl, hs1, hf1⟩; have hbq1 := hbq.keep hf1 (by simpa using Ne.symm hrq); obtain ⟨d0, d1, d2, d3, d4, d5, dz⟩ := hbq1.c6)
            | (go_at_call 119; refine (fail_any _ _).mono ?_; rintro e w2 ⟨rfl, rfl⟩))
          rw [HE.out]
          exact ⟨rfl, rfl, hfr.trans hf1⟩
        · have hd2 : decide ((65535 : Int) ≤ (acc.length : Int)) = false := by simp; omega
          have HE : Hid (R = match objP g bs refs deep (skipF bs k') with | .error e => .error e | .ok (o, j2) => listP g bs refs deep j2 (acc ++ [o])) := by
            rw [← hrel.out, listP, HU.out]; simp only; rw [if_neg h93, if_neg hbig]; rfl
          clear h93
          generalize skipF bs k' = j at *
          have HOB := hide (fun W (h : St W r A n c j refs bs) (h9 : objP g bs refs deep j ≠ .error 99) => HO.out g (by omega) r n c j A refs bs deep W h hj hdp h9)
          have h9 : objP g bs refs deep j ≠ .error 99 := fun h => by rw [h] at HE; exact H99.out HE.out
          have H9 := hide h9
          clear h9
          go_wp2_with (go_at_call 154; refine HSK.out.mono ?_; rintro e w1 ⟨rfl, hs1, hf1⟩; have hbq1 := hbq.keep hf1 (by simpa using Ne.symm hrq); obtain ⟨d0, d1, d2, d3, d4, d5, dz⟩ := hbq1.c6)
          generalize objP g bs refs deep j = RO at *
          cases RO with
          | error x =>
            have HOX := hide (fun W (h : St W r A n c j refs bs) => HOB.out W h H9.out)
            have hfin : ∀ w2, Fr [r] w1 w2 → ObjR w r A n c refs bs R (panicE x) w2 := fun w2 h => by rw [HE.out]; exact ⟨rfl, (hfr.trans hf1).trans h⟩
            have HFIN := hide hfin
            clear hfin
            refine wp_region_any (by kernel_rfl) ?_
            change wpAny _ _ _ _ _ _ _ (World.drew _)
            (refine wpAny_take (i := 0) (v := ?_) rfl (by kernel_rfl) (by kernel_rfl) (by kernel_rfl) (fun _ _ _ h => h) (Or.inl ⟨by rfl, ?_⟩) ?_; rotate_left; (first | (intro w; go_simp; done) | (intro w; go_simp; with_reducible rfl)))
            (refine wpAny_take (i := 2) (v := ?_) rfl (by kernel_rfl) (by kernel_rfl) (by kernel_rfl) (fun _ _ _ h => h) (Or.inl ⟨by rfl, ?_⟩) ?_; rotate_left; (first | (intro w; go_simp; done) | (intro w; go_simp; with_reducible rfl)))
            (refine wpAny_take (i := 3) (v := ?_) rfl (by kernel_rfl) (by kernel_rfl) (by kernel_rfl) (fun _ _ _ h => h) (Or.inl ⟨by rfl, ?_⟩) ?_; rotate_left; (first | (intro w; go_simp; done) | (intro w; go_simp; with_reducible rfl)))
            refine wpAny_ready (rs := [1, 4]) (by kernel_rfl) (by simp) ?_
            refine AllReady.cons rfl (fun K hK => ?_) (AllReady.cons rfl (fun K hK => ?_) AllReady.nil)
            · go_simp
              refine hK _ _ ?_
              clear hK K
              refine wpAny_ready (rs := [4]) (by kernel_rfl) (by simp) ?_
              refine AllReady.cons rfl (fun K hK => ?_) AllReady.nil
              go_simp
              go_wp2_with (go_at_call 68; refine (HOX.out _ (hs1.keep0 ((Fr.refl _ _).drew))).mono ?_; rintro e w2 ⟨rfl, hf2⟩; exact ⟨rfl, HFIN.out _ hf2.drew_left⟩)
            · go_simp
              go_wp2_with (go_at_call 68; refine (HOX.out _ (hs1.keep0 ((Fr.refl _ _).drew))).mono ?_; rintro e w2 ⟨rfl, hf2⟩; exact ⟨rfl, HFIN.out _ hf2.drew_left⟩)
          | ok oj =>
            obtain ⟨o, j2⟩ := oj
            have HOX := hide (fun W (h : St W r A n c j refs bs) => HOB.out W h H9.out)
            refine wp_region_any (by kernel_rfl) ?_
            change wpAny _ _ _ _ _ _ _ (World.drew _)
            (refine wpAny_take (i := 0) (v := ?_) rfl (by kernel_rfl) (by kernel_rfl) (by kernel_rfl) (fun _ _ _ h => h) (Or.inl ⟨by rfl, ?_⟩) ?_; rotate_left; (first | (intro w; go_simp; done) | (intro w; go_simp; with_reducible rfl)))
            (refine wpAny_take (i := 2) (v := ?_) rfl (by kernel_rfl) (by kernel_rfl) (by kernel_rfl) (fun _ _ _ h => h) (Or.inl ⟨by rfl, ?_⟩) ?_; rotate_left; (first | (intro w; go_simp; done) | (intro w; go_simp; with_reducible rfl)))
            (refine wpAny_take (i := 3) (v := ?_) rfl (by kernel_rfl) (by kernel_rfl) (by kernel_rfl) (fun _ _ _ h => h) (Or.inl ⟨by rfl, ?_⟩) ?_; rotate_left; (first | (intro w; go_simp; done) | (intro w; go_simp; with_reducible rfl)))
            refine wpAny_ready (rs := [1, 4]) (by kernel_rfl) (by simp) ?_
            refine AllReady.cons rfl (fun K hK => ?_) (AllReady.cons rfl (fun K hK => ?_) AllReady.nil)
            · go_simp
              refine hK _ _ ?_
              clear hK K
              refine wpAny_ready (rs := [4]) (by kernel_rfl) (by simp) ?_
              refine AllReady.cons rfl (fun K hK => ?_) AllReady.nil
              go_simp
              go_wp2_with (go_at_call 68; refine (HOX.out _ (hs1.keep0 ((Fr.refl _ _).drew))).mono ?_; rintro e w2 ⟨o0, o1, o2, o3, o4, o5, rfl, hov, hs2, hf2⟩)
              obtain ⟨i0, hi0, hz0, hz1, hz2⟩ := info_parts info_obj
              have hown2 : w2.ownsRow W0.heap.size 31 6 (.slice Av acc.length cv) acc.length css.flatten := own_keep (own_keep hown hf1 (fun g hg => by rw [List.mem_singleton.1 hg]; exact own_below hown hrb)) (Fr.drew_left hf2) (fun g hg => by rw [List.mem_singleton.1 hg]; exact own_below hown hrb)
              have hbw : W0.heap.size ≤ w2.heap.size := Nat.le_trans hsz (Nat.le_trans hf1.size hf2.size)
              refine wpAny_ready (rs := [5]) (by kernel_rfl) (by simp) ?_
              refine AllReady.cons rfl (fun K hK => ?_) AllReady.nil
              go_simp
              refine hK _ _ ?_
              clear hK K
              refine wpAny_ready (rs := [6]) (by kernel_rfl) (by simp) ?_
              refine AllReady.cons rfl (fun K hK => ?_) AllReady.nil
              refine step_append_any (P := Tryz.prog) _ (by rfl) _ _ _ (by rfl) W0.heap.size 31 i0 _ 6 104 Tryz.underlying29 hi0 hz0 hz1 hz2 rfl (by omega) (.slice Av acc.length cv) acc.length css.flatten (by rfl) (own_keep hown2 ((Fr.refl [] w2).alloc _) (by simp)) (fun g => g = w2.heap.size) (some ⟨w2.heap.size, 0, none⟩) 1 1 [o0, o1, o2, o3, o4, o5] (by rfl) (rd_new w2 _ _ 1 6 rfl) (ov_one hov) (by unfold maxLen; omega) (by omega) (by rw [World.size_alloc]; omega) ?_
              intro v' w3 hown3 hg3 hb3
              obtain ⟨Av', cv', rfl⟩ := own_slice hown3
              have hdz : w1.drew.heap.size = w1.heap.size := rfl
              have hlr : ∀ g ∈ (Value.slice Av acc.length cv).ownBlock.toList, W0.heap.size ≤ g ∧ g < wr.heap.size := fun g hg => by
                have he : (Value.slice Av acc.length cv).ownBlock = some g := by simpa using hg
                exact ⟨own_base hown g he, own_lt hown g he⟩
              have hlq : ∀ g ∈ (Value.slice Av acc.length cv).ownBlock.toList, g ≠ r ∧ g ≠ p ∧ g ≠ q := fun g hg => by have := hlr g hg; omega
              have hq3 : Blk w3 q 31 #[.int .i64 6, .int .i64 0, .string ⟨#[]⟩, .slice none 0 0, .slice Av acc.length cv, .slice none 0 0] :=
                ((hbq1.drew.keep hf2 (by simpa using hqr)).alloc _).grown hg3 (fun e => (hlq q (by simpa using e.symm)).2.2 rfl)
              have hp3 : Blk w3 p 31 zerosP := (((hbp.keep hf1 (by simpa using hpr)).drew.keep hf2 (by simpa using hpr)).alloc _).grown hg3 (fun e => (hlq p (by simpa using e.symm)).2.1 rfl)
              have hf2' : Fr [r] w1 w2 := Fr.drew_left hf2
              have hf3 : Fr (Value.slice Av acc.length cv).ownBlock.toList w2 w3 := ((Fr.refl _ w2).alloc _).grown hg3 (fun g hg => .inl (by rw [hg]; simp))
              have hst3 : St w3 r A n c j2 refs bs := hs2.keepA hf3 (fun hm => (hlq r hm).1 rfl) (fun ad h1 h2 hm => by have := (hlr _ hm).1; have := HAB.out ad h1 h2; omega)
              have hol3 : OL w3 W0.heap.size (Value.slice Av' (acc.length + 1) cv').ownBlock.toList (.slice Av' (acc.length + 1) cv') (acc ++ [o]) (css ++ [[o0, o1, o2, o3, o4, o5]]) := by
                have h1 := ((hol.keep hf1 (fun g hg => by rw [List.mem_singleton.1 hg]; exact own_below hown hrb) (fun g hg => .inl (by rw [List.mem_singleton.1 hg]; exact hrb))).keep hf2' (fun g hg => by rw [List.mem_singleton.1 hg]; exact own_below hown hrb) (fun g hg => .inl (by rw [List.mem_singleton.1 hg]; exact hrb)))
                refine h1.snoc hf3 hown3 (fun g hg => ?_) hov (by have := hf1.size; omega) hf3 (fun g hg => by have := (hlr g hg).2; have := hf1.size; omega) (fun g hg => ?_)
                · rcases hb3 with hb | hb
                  · left; rw [← hb]; exact hg
                  · right; rw [hb, World.size_alloc] at hg; simp at hg; omega
                · rcases hb3 with hb | hb
                  · left; rw [hb] at hg; have := (hlr g hg).2; have := hf1.size; omega
                  · right; rw [hb, World.size_alloc] at hg; simp at hg; omega
              have hfr3 : Fr [r] w w3 := ((hfr.trans hf1).trans hf2').trans' hf3 (fun g hg => .inr (by have := (hlr g hg).1; have := hf0.size; omega))
              have hsz3 : W0.heap.size ≤ w3.heap.size := Nat.le_trans hbw hf3.size
              have hq4 := hq3.set_ 4 (.slice Av' (acc.length + 1) cv')
              have hfx : Fr [q] w3 (w3.setCell ⟨q, 4, none⟩ (.slice Av' (acc.length + 1) cv')) := (Fr.refl [q] w3).setCell (.inl (by simp)) _
              have hst4 := hst3.keepA hfx (by simpa using hrq) (fun ad h1 h2 => by have := HAB.out ad h1 h2; simp; omega)
              have hp4 := hp3.keep hfx (by simpa using hpq)
              have hol4 := hol3.keep hfx (fun g hg => by rw [List.mem_singleton.1 hg]; exact own_below hown3 hql) (fun g hg => .inl (by rw [List.mem_singleton.1 hg]; exact hql))
              have hfr4 := hfr3.trans' hfx (fun g hg => .inr (by rw [List.mem_singleton.1 hg]; exact hwq))
              have HFIN := hide (⟨hst4, hp4, hq4, hol4, hfr4, Nat.le_trans hsz3 hfx.size⟩ : _ ∧ _ ∧ _ ∧ _ ∧ _ ∧ _)
              clear hdz hst4 hp4 hq4 hol4 hfr4 hfx hsz3 hfr3 hol3 hst3 hp3 hlr hlq hf3 hb3 hg3 hown3
              obtain ⟨x0, x1, x2, x3, x4, x5, xz⟩ := hq3.c6
              clear hq3
              refine hK _ _ ?_
              clear hK K
              refine wpAny_ready (rs := [7]) (by kernel_rfl) (by simp) ?_
              refine AllReady.cons rfl (fun K hK => ?_) AllReady.nil
              go_simp
              refine hK _ _ ?_
              clear hK K
              refine wpAny_ready (rs := [8]) (by kernel_rfl) (by simp) ?_
              refine AllReady.cons rfl (fun K hK => ?_) AllReady.nil
              go_simp
              refine hK _ _ ?_
              clear hK K
              refine wpAny_done (by kernel_rfl) ?_ _
              go_wp2
              go_roundg g
              case measure => exact Nat.lt_succ_self g
              case rel =>
                obtain ⟨hst4, hp4, hq4, hol4, hfr4, hsz4⟩ := HFIN.out
                exact ⟨j2, acc ++ [o], _, _, hst4, hp4, by simpa using hq4, hol4, hfr4, hsz4, by omega, HE.out.symm⟩
            · go_simp
              go_wp2_with (go_at_call 68; refine (HOX.out _ (hs1.keep0 ((Fr.refl _ _).drew))).mono ?_; rintro e w2 ⟨o0, o1, o2, o3, o4, o5, rfl, hov, hs2, hf2⟩)
              obtain ⟨i0, hi0, hz0, hz1, hz2⟩ := info_parts info_obj
              have hown2 : w2.ownsRow W0.heap.size 31 6 (.slice Av acc.length cv) acc.length css.flatten := own_keep (own_keep hown hf1 (fun g hg => by rw [List.mem_singleton.1 hg]; exact own_below hown hrb)) (Fr.drew_left hf2) (fun g hg => by rw [List.mem_singleton.1 hg]; exact own_below hown hrb)
              have hbw : W0.heap.size ≤ w2.heap.size := Nat.le_trans hsz (Nat.le_trans hf1.size hf2.size)
              have hq1d : (w2.alloc (.cells #[o0, o1, o2, o3, o4, o5] 31)).cell? ⟨q, 4, none⟩ = some (.slice Av acc.length cv) := by rw [(((hbq1.drew.keep hf2 (by simpa using hqr))).alloc _).cell]; rfl
              have hq1c : w2.cell? ⟨q, 4, none⟩ = some (.slice Av acc.length cv) := by rw [((hbq1.drew.keep hf2 (by simpa using hqr))).cell]; rfl
              refine wpAny_ready (rs := [1, 5]) (by kernel_rfl) (by simp) ?_
              refine AllReady.cons rfl (fun K hK => ?_) (AllReady.cons rfl (fun K hK => ?_) AllReady.nil)
              · go_simp
                refine hK _ _ ?_
                clear hK K hq1c hq1d
                refine wpAny_ready (rs := [5]) (by kernel_rfl) (by simp) ?_
                refine AllReady.cons rfl (fun K hK => ?_) AllReady.nil
                go_simp
                refine hK _ _ ?_
                clear hK K
                refine wpAny_ready (rs := [6]) (by kernel_rfl) (by simp) ?_
                refine AllReady.cons rfl (fun K hK => ?_) AllReady.nil
                refine step_append_any (P := Tryz.prog) _ (by rfl) _ _ _ (by rfl) W0.heap.size 31 i0 _ 6 104 Tryz.underlying29 hi0 hz0 hz1 hz2 rfl (by omega) (.slice Av acc.length cv) acc.length css.flatten (by rfl) (own_keep hown2 ((Fr.refl [] w2).alloc _) (by simp)) (fun g => g = w2.heap.size) (some ⟨w2.heap.size, 0, none⟩) 1 1 [o0, o1, o2, o3, o4, o5] (by rfl) (rd_new w2 _ _ 1 6 rfl) (ov_one hov) (by unfold maxLen; omega) (by omega) (by rw [World.size_alloc]; omega) ?_
                intro v' w3 hown3 hg3 hb3
                obtain ⟨Av', cv', rfl⟩ := own_slice hown3
                have hdz : w1.drew.heap.size = w1.heap.size := rfl
                have hlr : ∀ g ∈ (Value.slice Av acc.length cv).ownBlock.toList, W0.heap.size ≤ g ∧ g < wr.heap.size := fun g hg => by
                  have he : (Value.slice Av acc.length cv).ownBlock = some g := by simpa using hg
                  exact ⟨own_base hown g he, own_lt hown g he⟩
                have hlq : ∀ g ∈ (Value.slice Av acc.length cv).ownBlock.toList, g ≠ r ∧ g ≠ p ∧ g ≠ q := fun g hg => by have := hlr g hg; omega
                have hq3 : Blk w3 q 31 #[.int .i64 6, .int .i64 0, .string ⟨#[]⟩, .slice none 0 0, .slice Av acc.length cv, .slice none 0 0] :=
                  ((hbq1.drew.keep hf2 (by simpa using hqr)).alloc _).grown hg3 (fun e => (hlq q (by simpa using e.symm)).2.2 rfl)
                have hp3 : Blk w3 p 31 zerosP := (((hbp.keep hf1 (by simpa using hpr)).drew.keep hf2 (by simpa using hpr)).alloc _).grown hg3 (fun e => (hlq p (by simpa using e.symm)).2.1 rfl)
                have hf2' : Fr [r] w1 w2 := Fr.drew_left hf2
                have hf3 : Fr (Value.slice Av acc.length cv).ownBlock.toList w2 w3 := ((Fr.refl _ w2).alloc _).grown hg3 (fun g hg => .inl (by rw [hg]; simp))
                have hst3 : St w3 r A n c j2 refs bs := hs2.keepA hf3 (fun hm => (hlq r hm).1 rfl) (fun ad h1 h2 hm => by have := (hlr _ hm).1; have := HAB.out ad h1 h2; omega)
                have hol3 : OL w3 W0.heap.size (Value.slice Av' (acc.length + 1) cv').ownBlock.toList (.slice Av' (acc.length + 1) cv') (acc ++ [o]) (css ++ [[o0, o1, o2, o3, o4, o5]]) := by
                  have h1 := ((hol.keep hf1 (fun g hg => by rw [List.mem_singleton.1 hg]; exact own_below hown hrb) (fun g hg => .inl (by rw [List.mem_singleton.1 hg]; exact hrb))).keep hf2' (fun g hg => by rw [List.mem_singleton.1 hg]; exact own_below hown hrb) (fun g hg => .inl (by rw [List.mem_singleton.1 hg]; exact hrb)))
                  refine h1.snoc hf3 hown3 (fun g hg => ?_) hov (by have := hf1.size; omega) hf3 (fun g hg => by have := (hlr g hg).2; have := hf1.size; omega) (fun g hg => ?_)
                  · rcases hb3 with hb | hb
                    · left; rw [← hb]; exact hg
                    · right; rw [hb, World.size_alloc] at hg; simp at hg; omega
                  · rcases hb3 with hb | hb
                    · left; rw [hb] at hg; have := (hlr g hg).2; have := hf1.size; omega
                    · right; rw [hb, World.size_alloc] at hg; simp at hg; omega
                have hfr3 : Fr [r] w w3 := ((hfr.trans hf1).trans hf2').trans' hf3 (fun g hg => .inr (by have := (hlr g hg).1; have := hf0.size; omega))
                have hsz3 : W0.heap.size ≤ w3.heap.size := Nat.le_trans hbw hf3.size
                have hq4 := hq3.set_ 4 (.slice Av' (acc.length + 1) cv')
                have hfx : Fr [q] w3 (w3.setCell ⟨q, 4, none⟩ (.slice Av' (acc.length + 1) cv')) := (Fr.refl [q] w3).setCell (.inl (by simp)) _
                have hst4 := hst3.keepA hfx (by simpa using hrq) (fun ad h1 h2 => by have := HAB.out ad h1 h2; simp; omega)
                have hp4 := hp3.keep hfx (by simpa using hpq)
                have hol4 := hol3.keep hfx (fun g hg => by rw [List.mem_singleton.1 hg]; exact own_below hown3 hql) (fun g hg => .inl (by rw [List.mem_singleton.1 hg]; exact hql))
                have hfr4 := hfr3.trans' hfx (fun g hg => .inr (by rw [List.mem_singleton.1 hg]; exact hwq))
                have HFIN := hide (⟨hst4, hp4, hq4, hol4, hfr4, Nat.le_trans hsz3 hfx.size⟩ : _ ∧ _ ∧ _ ∧ _ ∧ _ ∧ _)
                clear hdz hst4 hp4 hq4 hol4 hfr4 hfx hsz3 hfr3 hol3 hst3 hp3 hlr hlq hf3 hb3 hg3 hown3
                obtain ⟨x0, x1, x2, x3, x4, x5, xz⟩ := hq3.c6
                clear hq3
                refine hK _ _ ?_
                clear hK K
                refine wpAny_ready (rs := [7]) (by kernel_rfl) (by simp) ?_
                refine AllReady.cons rfl (fun K hK => ?_) AllReady.nil
                go_simp
                refine hK _ _ ?_
                clear hK K
                refine wpAny_ready (rs := [8]) (by kernel_rfl) (by simp) ?_
                refine AllReady.cons rfl (fun K hK => ?_) AllReady.nil
                go_simp
                refine hK _ _ ?_
                clear hK K
                refine wpAny_done (by kernel_rfl) ?_ _
                go_wp2
                go_roundg g
                case measure => exact Nat.lt_succ_self g
                case rel =>
                  obtain ⟨hst4, hp4, hq4, hol4, hfr4, hsz4⟩ := HFIN.out
                  exact ⟨j2, acc ++ [o], _, _, hst4, hp4, by simpa using hq4, hol4, hfr4, hsz4, by omega, HE.out.symm⟩
              · go_simp
                refine hK _ _ ?_
                clear hK K
                refine wpAny_ready (rs := [1]) (by kernel_rfl) (by simp) ?_
                refine AllReady.cons rfl (fun K hK => ?_) AllReady.nil
                go_simp
                refine hK _ _ ?_
                clear hK K
                clear hq1c hq1d
                refine wpAny_ready (rs := [6]) (by kernel_rfl) (by simp) ?_
                refine AllReady.cons rfl (fun K hK => ?_) AllReady.nil
                refine step_append_any (P := Tryz.prog) _ (by rfl) _ _ _ (by rfl) W0.heap.size 31 i0 _ 6 104 Tryz.underlying29 hi0 hz0 hz1 hz2 rfl (by omega) (.slice Av acc.length cv) acc.length css.flatten (by rfl) (own_keep hown2 ((Fr.refl [] w2).alloc _) (by simp)) (fun g => g = w2.heap.size) (some ⟨w2.heap.size, 0, none⟩) 1 1 [o0, o1, o2, o3, o4, o5] (by rfl) (rd_new w2 _ _ 1 6 rfl) (ov_one hov) (by unfold maxLen; omega) (by omega) (by rw [World.size_alloc]; omega) ?_
                intro v' w3 hown3 hg3 hb3
                obtain ⟨Av', cv', rfl⟩ := own_slice hown3
                have hdz : w1.drew.heap.size = w1.heap.size := rfl
                have hlr : ∀ g ∈ (Value.slice Av acc.length cv).ownBlock.toList, W0.heap.size ≤ g ∧ g < wr.heap.size := fun g hg => by
                  have he : (Value.slice Av acc.length cv).ownBlock = some g := by simpa using hg
                  exact ⟨own_base hown g he, own_lt hown g he⟩
                have hlq : ∀ g ∈ (Value.slice Av acc.length cv).ownBlock.toList, g ≠ r ∧ g ≠ p ∧ g ≠ q := fun g hg => by have := hlr g hg; omega
                have hq3 : Blk w3 q 31 #[.int .i64 6, .int .i64 0, .string ⟨#[]⟩, .slice none 0 0, .slice Av acc.length cv, .slice none 0 0] :=
                  ((hbq1.drew.keep hf2 (by simpa using hqr)).alloc _).grown hg3 (fun e => (hlq q (by simpa using e.symm)).2.2 rfl)
                have hp3 : Blk w3 p 31 zerosP := (((hbp.keep hf1 (by simpa using hpr)).drew.keep hf2 (by simpa using hpr)).alloc _).grown hg3 (fun e => (hlq p (by simpa using e.symm)).2.1 rfl)
                have hf2' : Fr [r] w1 w2 := Fr.drew_left hf2
                have hf3 : Fr (Value.slice Av acc.length cv).ownBlock.toList w2 w3 := ((Fr.refl _ w2).alloc _).grown hg3 (fun g hg => .inl (by rw [hg]; simp))
                have hst3 : St w3 r A n c j2 refs bs := hs2.keepA hf3 (fun hm => (hlq r hm).1 rfl) (fun ad h1 h2 hm => by have := (hlr _ hm).1; have := HAB.out ad h1 h2; omega)
                have hol3 : OL w3 W0.heap.size (Value.slice Av' (acc.length + 1) cv').ownBlock.toList (.slice Av' (acc.length + 1) cv') (acc ++ [o]) (css ++ [[o0, o1, o2, o3, o4, o5]]) := by
                  have h1 := ((hol.keep hf1 (fun g hg => by rw [List.mem_singleton.1 hg]; exact own_below hown hrb) (fun g hg => .inl (by rw [List.mem_singleton.1 hg]; exact hrb))).keep hf2' (fun g hg => by rw [List.mem_singleton.1 hg]; exact own_below hown hrb) (fun g hg => .inl (by rw [List.mem_singleton.1 hg]; exact hrb)))
                  refine h1.snoc hf3 hown3 (fun g hg => ?_) hov (by have := hf1.size; omega) hf3 (fun g hg => by have := (hlr g hg).2; have := hf1.size; omega) (fun g hg => ?_)
                  · rcases hb3 with hb | hb
                    · left; rw [← hb]; exact hg
                    · right; rw [hb, World.size_alloc] at hg; simp at hg; omega
                  · rcases hb3 with hb | hb
                    · left; rw [hb] at hg; have := (hlr g hg).2; have := hf1.size; omega
                    · right; rw [hb, World.size_alloc] at hg; simp at hg; omega
                have hfr3 : Fr [r] w w3 := ((hfr.trans hf1).trans hf2').trans' hf3 (fun g hg => .inr (by have := (hlr g hg).1; have := hf0.size; omega))
                have hsz3 : W0.heap.size ≤ w3.heap.size := Nat.le_trans hbw hf3.size
                have hq4 := hq3.set_ 4 (.slice Av' (acc.length + 1) cv')
                have hfx : Fr [q] w3 (w3.setCell ⟨q, 4, none⟩ (.slice Av' (acc.length + 1) cv')) := (Fr.refl [q] w3).setCell (.inl (by simp)) _
                have hst4 := hst3.keepA hfx (by simpa using hrq) (fun ad h1 h2 => by have := HAB.out ad h1 h2; simp; omega)
                have hp4 := hp3.keep hfx (by simpa using hpq)
                have hol4 := hol3.keep hfx (fun g hg => by rw [List.mem_singleton.1 hg]; exact own_below hown3 hql) (fun g hg => .inl (by rw [List.mem_singleton.1 hg]; exact hql))
                have hfr4 := hfr3.trans' hfx (fun g hg => .inr (by rw [List.mem_singleton.1 hg]; exact hwq))
                have HFIN := hide (⟨hst4, hp4, hq4, hol4, hfr4, Nat.le_trans hsz3 hfx.size⟩ : _ ∧ _ ∧ _ ∧ _ ∧ _ ∧ _)
                clear hdz hst4 hp4 hq4 hol4 hfr4 hfx hsz3 hfr3 hol3 hst3 hp3 hlr hlq hf3 hb3 hg3 hown3
                obtain ⟨x0, x1, x2, x3, x4, x5, xz⟩ := hq3.c6
                clear hq3
                refine hK _ _ ?_
                clear hK K
                refine wpAny_ready (rs := [7]) (by kernel_rfl) (by simp) ?_
                refine AllReady.cons rfl (fun K hK => ?_) AllReady.nil
                go_simp
                refine hK _ _ ?_
                clear hK K
                refine wpAny_ready (rs := [8]) (by kernel_rfl) (by simp) ?_
                refine AllReady.cons rfl (fun K hK => ?_) AllReady.nil
                go_simp
                refine hK _ _ ?_
                clear hK K
                refine wpAny_done (by kernel_rfl) ?_ _
                go_wp2
                go_roundg g
                case measure => exact Nat.lt_succ_self g
                case rel =>
                  obtain ⟨hst4, hp4, hq4, hol4, hfr4, hsz4⟩ := HFIN.out
                  exact ⟨j2, acc ++ [o], _, _, hst4, hp4, by simpa using hq4, hol4, hfr4, hsz4, by omega, HE.out.symm⟩
end Go.Proofs.YtdjhjfpeckndkaaGreatDoor
