/- Contracts: the printer's pens. -/
import Derived.Test.YtndfdekcdhlgoaaDoorScSpA
import Derived.Laws.LoneSync
import Derived.Deep.RegionHeld3
set_option linter.unusedVariables false
set_option linter.unusedSimpArgs false
namespace Go.Proofs.YtndfdekcdhlgoaaDoor
open Go.RowKit
theorem info_int : (Tryd.prog.info? 3).map (fun i => (i.zero, i.size, i.bytes)) = some (some (.int .i64 0), 1, 8) := by kernel_rfl
/-- A copy of a row of numbers. -/
theorem clone_any {w : World} {N : Nat → Prop} {A : Option Addr} {n c : Nat} {l : List Int} (hr : Rd w N 1 A n (l.map (Value.int .i64))) (hn : n ≤ 1000) :
    Calls Tryd.prog 49 #[.slice A n c] w fun e w' => ∃ v', e = .returned v' ∧ w'.ownsRow w.heap.size 3 1 v' n (l.map (Value.int .i64)) ∧ Fr [] w w' := by
  have hl : l.length = n := by have := hr.len1; simpa using this
  rcases A with _ | ad
  · have h0 : n = 0 := by
      rcases Nat.eq_zero_or_pos n with h0 | h0
      · exact h0
      · obtain ⟨ad, h, _⟩ := hr.2 (by omega)
        cases h
    subst h0
    have : l = [] := List.eq_nil_of_length_eq_zero hl
    subst this
    exact (Tryd.slices_Clone_int_nil 0 c w).mono fun e w' ⟨h1, h2⟩ => ⟨_, h1, own_nil _ _ _ _, by rw [h2]; exact Fr.refl _ _⟩
  · rcases Nat.eq_zero_or_pos n with h0 | h0
    · subst h0
      have : l = [] := List.eq_nil_of_length_eq_zero hl
      subst this
      exact (Tryd.slices_Clone_int_zero ad c w).mono fun e w' ⟨v', h1, h2, _, h3⟩ => ⟨v', h1, h2, Fr.of_below h3⟩
    · obtain ⟨ad', h, _, hc⟩ := hr.2 (by omega)
      injection h with h
      subst h
      have hcell : ∀ j z, l[j]? = some z → w.cell? (ad.add j) = some (.int .i64 z) := fun j z hz => hc j _ (by rw [List.getElem?_map, hz]; rfl)
      have hsp : ad.spot = none := by
        obtain ⟨_, _, _, _, h5⟩ := World.shape?_of_cell? (hcell 0 l[0] (List.getElem?_eq_getElem (by omega)))
        simpa [Addr.add] using h5
      obtain ⟨blk, off, spot⟩ := ad
      dsimp only at hsp
      subst hsp
      refine (Tryd.slices_Clone_int blk off n c l w (by omega) (by omega) (fun j hj => ?_)).mono fun e w' ⟨v', h1, h2, _, h3⟩ => ⟨v', h1, by rw [List.take_of_length_le (by omega)] at h2; exact h2, Fr.of_below h3⟩
      have h1 := hcell j l[j] (List.getElem?_eq_getElem hj)
      have e : (⟨blk, off, none⟩ : Addr).add j = ⟨blk, off + j, none⟩ := by
        unfold Addr.add
        by_cases h0 : j = 0
        · subst h0; simp
        · simp [h0]
      rw [e] at h1
      rw [h1]; simp [List.getD, hj]
theorem KR.own {w : World} {base base' b n : Nat} {v : Value} {l : List Int} (h : w.ownsRow base' 3 1 v n (l.map (Value.int .i64))) (hb : b < base') : ∃ A c, v = .slice A n c ∧ KR w base b A n l := by
  have hl : l.length = n := by have := h.1; simpa using this
  rcases h.2 with ⟨rfl, rfl⟩ | ⟨g, cap, cur, rfl, hg, hh, hnc, hcm, hcs, htake⟩
  · have : l = [] := List.eq_nil_of_length_eq_zero hl
    subst this
    exact ⟨none, 0, rfl, rfl, fun W _ => Rd.nil⟩
  · refine ⟨_, _, rfl, hl, fun W hW => ⟨by simp [hl], fun _ => ⟨_, rfl, trivial, fun j u hu => ?_⟩⟩⟩
    have hb2 : Blk W g 3 cur := hW.blk hh (fun e => by omega) (by decide)
    have e : (⟨g, 0, none⟩ : Addr).add j = ⟨g, j, none⟩ := by unfold Addr.add; split <;> simp_all
    rw [e, hb2.cell]
    have hj : j < n := by have := (List.getElem?_eq_some_iff.1 hu).1; simp at this; omega
    have h2 := congrArg (fun x => x[j]?) htake
    simp only [Nat.mul_one, List.getElem?_take, if_pos hj] at h2
    rw [hu] at h2
    simpa using h2
theorem ints_one (l : List Int) : ∀ u ∈ l.map (Value.int .i64), u.oneCell' = true := by
  intro u hu
  obtain ⟨z, _, rfl⟩ := List.mem_map.1 hu
  rfl
set_option maxRecDepth 100000 in
set_option maxHeartbeats 4000000 in
theorem pen_pr {w : World} {base b : Nat} {bs : List UInt8} (h : Bu w base prT b bs) {pw pc pj pm pf : Int} {dash : List Int} {Ad : Option Addr} {nd cd : Nat} (hl : Rd w (fun g => g < base) 1 Ad nd (dash.map (Value.int .i64)))
    (hp : penB ⟨pw, pc, pj, pm, dash, pf⟩ = true) (hlen : bs.length ≤ 300000000) :
    Calls Tryd.prog 33 #[.pointer (some ⟨b, 0, none⟩), .agg #[.int .i64 pw, .int .i64 pc, .int .i64 pj, .int .i64 pm, .slice Ad nd cd, .int .i64 pf]] w fun e w' => e = .returned (.tuple #[]) ∧ Grew w base prT b (bs ++ penT ⟨pw, pc, pj, pm, dash, pf⟩) w' := by
  have hp1 : (fitsI pw = true ∧ fitsI pm = true ∧ fitsI pf = true) ∧ (0 ≤ pc ∧ pc ≤ 2) ∧ (0 ≤ pj ∧ pj ≤ 2) ∧ dash.length ≤ 11 ∧ ∀ z, z ∈ dash → fitsI z = true := by
    unfold penB posB at hp
    simp only [Bool.and_eq_true, decide_eq_true_eq, List.all_eq_true] at hp
    exact ⟨⟨hp.1.1.1.1.1.1.1.1.2, hp.1.1.1.1.2, hp.1.1.1.2.2⟩, hp.1.1.1.1.1.1.1.2, hp.1.1.1.1.1.1.2, hp.1.1.2, fun z hz => (hp.1.2 z hz).2⟩
  obtain ⟨⟨f1, f2, f3⟩, ⟨hc1, hc2⟩, ⟨hj1, hj2⟩, hd11, hdf⟩ := hp1
  have hdn : dash.length = nd := by have := hl.len1; simpa using this
  have hf : Fr [] w (w.alloc (.cells #[.int .i64 pw, .int .i64 pc, .int .i64 pj, .int .i64 pm, .slice Ad nd cd, .int .i64 pf] 39)) := (Fr.refl _ _).alloc _
  have hB := Blk.new w 39 #[.int .i64 pw, .int .i64 pc, .int .i64 pj, .int .i64 pm, .slice Ad nd cd, .int .i64 pf]
  have hgb : w.heap.size ≠ b := fun e => by have := h.lt; omega
  have hsp := smallT_len pc (by omega)
  have hsj := smallT_len pj (by omega)
  have hsd := smallT_len (nd : Int) (by omega)
  have hnw := numT_len pw
  have hnm := numT_len pm
  have HRD := hide (fun W (hW : FrB base b w W) => (by
    obtain ⟨S, hf, hS⟩ := hW.fr
    exact hl.keep hf (fun g hg hm => by have := (hS g hm).1; omega) : Rd W (fun g => g < base) 1 Ad nd (dash.map (Value.int .i64))))
  have HCL := hide (fun W (hW : FrB base b w W) => clone_any (c := cd) (HRD.out W hW) (by omega))
  obtain ⟨i0, hi0, hz0, hz1, hz2⟩ := info_parts info_int
  have HI0 := hide hi0
  have HZ0 := hide hz0
  have HZ1 := hide hz1
  have HZ2 := hide hz2
  clear hi0 hz0 hz1 hz2 hp hl
  have HH := hide h
  have HBB := hide hB
  have HDN := hide hdn
  have HDF := hide hdf
  have hsz : (w.alloc (.cells #[.int .i64 pw, .int .i64 pc, .int .i64 pj, .int .i64 pm, .slice Ad nd cd, .int .i64 pf] 39)).heap.size = w.heap.size + 1 := by simp
  have HN1 : Hid (Calls Tryd.prog 13 #[.pointer (some ⟨b, 0, none⟩), .slice (some ⟨w.heap.size + 1, 0, none⟩) 1 1] ((w.alloc (.cells #[.int .i64 pw, .int .i64 pc, .int .i64 pj, .int .i64 pm, .slice Ad nd cd, .int .i64 pf] 39)).alloc (.cells #[.int .i64 pw] 3)) fun e w' => e = .returned (.tuple #[]) ∧ Grew (w.alloc (.cells #[.int .i64 pw, .int .i64 pc, .int .i64 pj, .int .i64 pm, .slice Ad nd cd, .int .i64 pf] 39)) base prT b (bs ++ numsT [pw]) w') := hide (by
    rw [← hsz]
    exact numbersN_pr (HH.out.keep hf) [pw] (by simpa using f1) (by simp) (by omega))
  have l1 : (bs ++ numsT [pw]).length ≤ 300000024 := by simp only [numsT, List.flatMap_cons, List.flatMap_nil, List.length_append, List.length_nil]; omega
  have l2 : (bs ++ numsT [pw] ++ smallT pc).length ≤ 300000027 := by rw [List.length_append]; omega
  have l3 : (bs ++ numsT [pw] ++ smallT pc ++ smallT pj).length ≤ 300000030 := by rw [List.length_append]; omega
  have HN2 := hide (fun W (hW : Bu W base prT b (bs ++ numsT [pw] ++ smallT pc ++ smallT pj)) => (numbersN_pr hW [pm] (by simpa using f2) (by simp) (by omega) : Calls Tryd.prog 13 #[.pointer (some ⟨b, 0, none⟩), .slice (some ⟨W.heap.size, 0, none⟩) 1 1] (W.alloc (.cells #[.int .i64 pm] 3)) fun e w' => e = .returned (.tuple #[]) ∧ Grew W base prT b (bs ++ numsT [pw] ++ smallT pc ++ smallT pj ++ numsT [pm]) w'))
  have l4 : (bs ++ numsT [pw] ++ smallT pc ++ smallT pj ++ numsT [pm]).length ≤ 300000054 := by rw [List.length_append]; simp only [numsT, List.flatMap_cons, List.flatMap_nil, List.length_append, List.length_nil] at l3 ⊢; omega
  have l5 : (bs ++ numsT [pw] ++ smallT pc ++ smallT pj ++ numsT [pm] ++ smallT nd).length ≤ 300000057 := by rw [List.length_append]; omega
  have HTX : Hid (bs ++ numsT [pw] ++ smallT pc ++ smallT pj ++ numsT [pm] ++ smallT nd ++ numsT (dash ++ [pf]) = bs ++ penT ⟨pw, pc, pj, pm, dash, pf⟩) := hide (by unfold penT numsT; simp [hdn])
  have hpf : ∀ z, z ∈ dash ++ [pf] → fitsI z = true := fun z hz => by
    rcases List.mem_append.1 hz with h1 | h1
    · exact hdf z h1
    · rw [List.mem_singleton.1 h1]; exact f3
  have HPF := hide hpf
  have hnd : nd ≤ 11 := by omega
  clear h hB hdn hdf hpf f1 f2 f3 hsz
  have HGB := hide hgb
  have HF := hide hf
  clear hgb hf
  go_enter Tryd.func33, Tryd.ntmps33
  go_wp2_with (go_at_call 13; refine HN1.out.mono ?_)
  rintro e w1 ⟨rfl, hg1⟩
  have c1 : w1.cell? ⟨w.heap.size, 1, none⟩ = some (.int .i64 pc) := (hg1.2.blk HBB.out HGB.out (by decide)).cell 1
  go_wp2_with (go_at_call 31; refine (small_pr hg1.1 pc hc1 (by omega) (by omega)).mono ?_)
  rintro e w2 ⟨rfl, hg2⟩
  have hg12 := hg1.trans hg2
  have c2 : w2.cell? ⟨w.heap.size, 2, none⟩ = some (.int .i64 pj) := (hg12.2.blk HBB.out HGB.out (by decide)).cell 2
  go_wp2_with (go_at_call 31; refine (small_pr hg12.1 pj hj1 (by omega) (by omega)).mono ?_)
  rintro e w3 ⟨rfl, hg3⟩
  have hg13 := hg12.trans hg3
  have c3 : w3.cell? ⟨w.heap.size, 3, none⟩ = some (.int .i64 pm) := (hg13.2.blk HBB.out HGB.out (by decide)).cell 3
  go_wp2_with (go_at_call 13; refine (HN2.out _ hg13.1).mono ?_)
  rintro e w4 ⟨rfl, hg4⟩
  have hg14 := hg13.trans hg4
  have c4 : w4.cell? ⟨w.heap.size, 4, none⟩ = some (.slice Ad nd cd) := (hg14.2.blk HBB.out HGB.out (by decide)).cell 4
  go_wp2_with (go_at_call 31; refine (small_pr hg14.1 nd (by omega) (by omega) (by omega)).mono ?_)
  rintro e w5 ⟨rfl, hg5⟩
  have hg15 := hg14.trans hg5
  have hbf := hg15.2.blk HBB.out HGB.out (by decide)
  have HK := hide (fun W (hW : FrB base b w5 W) => (⟨(hW.blk hbf HGB.out (by decide)).cell 4, (hW.blk hbf HGB.out (by decide)).cell 5, hW⟩ : W.cell? ⟨w.heap.size, 4, none⟩ = some (.slice Ad nd cd) ∧ W.cell? ⟨w.heap.size, 5, none⟩ = some (.int .i64 pf) ∧ FrB base b w5 W))
  have HBU := hide hg15.1
  have hb5 := hg15.1.lt
  have HG := hide (Grew.after HF.out hg15)
  have HW5 := hide ((FrB.of0 HF.out).trans hg15.2)
  clear c1 c2 c3 c4 hg1 hg2 hg3 hg4 hg5 hg12 hg13 hg14 hg15 hbf
  go_wp2
  refine wp_region_noPanic ?_
  refine wp_region_held_drew (S := fun w' => w'.cell? ⟨w.heap.size, 4, none⟩ = some (.slice Ad nd cd) ∧ w'.cell? ⟨w.heap.size, 5, none⟩ = some (.int .i64 pf) ∧ FrB base b w5 w') (by kernel_rfl) (HK.out _ (FrB.of0 (Fr.refl _ _).drew)) (fun hHeld => ?_)
  (refine wpAnyH_take (i := 0) (v := ?_) rfl (by kernel_rfl) (by kernel_rfl) (by kernel_rfl) (fun _ _ _ h => h) (Or.inl ⟨by rfl, ?_⟩) (by assumption) ?_; rotate_left; (intro w hSw; (try dsimp only at hSw); go_simp; try (with_reducible rfl)); (try simp only [Act.put, List.getElem_toArray, List.getElem_cons_succ, List.getElem_cons_zero, List.setIfInBounds_toArray, List.set_cons_zero, List.set_cons_succ]))
  (refine wpAnyH_take (i := 1) (v := ?_) rfl (by kernel_rfl) (by kernel_rfl) (by kernel_rfl) (fun _ _ _ h => h) (Or.inl ⟨by rfl, ?_⟩) (by assumption) ?_; rotate_left; (intro w hSw; (try dsimp only at hSw); go_simp; try (with_reducible rfl)); (try simp only [Act.put, List.getElem_toArray, List.getElem_cons_succ, List.getElem_cons_zero, List.setIfInBounds_toArray, List.set_cons_zero, List.set_cons_succ]))
  (refine wpAnyH_take (i := 2) (v := ?_) rfl (by kernel_rfl) (by kernel_rfl) (by kernel_rfl) (fun _ _ _ h => h) (Or.inl ⟨by rfl, ?_⟩) (by assumption) ?_; rotate_left; (intro w hSw; (try dsimp only at hSw); go_simp; try (with_reducible rfl)); (try simp only [Act.put, List.getElem_toArray, List.getElem_cons_succ, List.getElem_cons_zero, List.setIfInBounds_toArray, List.set_cons_zero, List.set_cons_succ]))
  (refine wpAnyH_take (i := 4) (v := ?_) rfl (by kernel_rfl) (by kernel_rfl) (by kernel_rfl) (fun _ _ _ h => h) (Or.inl ⟨by rfl, ?_⟩) (by assumption) ?_; rotate_left; (intro w hSw; (try dsimp only at hSw); go_simp; try (with_reducible rfl)); (try simp only [Act.put, List.getElem_toArray, List.getElem_cons_succ, List.getElem_cons_zero, List.setIfInBounds_toArray, List.set_cons_zero, List.set_cons_succ]))
  (refine wpAnyH_take (i := 5) (v := ?_) rfl (by kernel_rfl) (by kernel_rfl) (by kernel_rfl) (fun _ _ _ h => h) (Or.inl ⟨by rfl, ?_⟩) (by assumption) ?_; rotate_left; (intro w hSw; (try dsimp only at hSw); go_simp; try (with_reducible rfl)); (try simp only [Act.put, List.getElem_toArray, List.getElem_cons_succ, List.getElem_cons_zero, List.setIfInBounds_toArray, List.set_cons_zero, List.set_cons_succ]))
  refine wpAnyH_ready (rs := [3,6]) (by kernel_rfl) (by simp) (AllReadyH.cons rfl (fun K hK => ?_) ( AllReadyH.cons rfl (fun K hK => ?_) AllReadyH.nil))
  · go_simp
    go_at_call 49
    refine (HCL.out _ (HW5.out.trans (FrB.of0 (Fr.refl _ _).drew))).mono ?_
    rintro e w6 ⟨v', rfl, hown, hf6⟩
    have hf56 : Fr [] w5 w6 := Fr.then0 (Fr.refl _ _).drew hf6
    refine hK.out _ _ (HK.out _ (FrB.of0 hf56)) (fun hHeld => ?_); clear hK K; (try simp only [Act.put, List.setIfInBounds_toArray, List.set_cons_zero, List.set_cons_succ])
    refine wpAnyH_ready (rs := [6]) (by kernel_rfl) (by simp) (AllReadyH.cons rfl (fun K hK => ?_) AllReadyH.nil)
    go_simp
    refine hK.out _ _ (HK.out _ (FrB.of0 (hf56.alloc _))) (fun hHeld => ?_); clear hK K; (try simp only [Act.put, List.setIfInBounds_toArray, List.set_cons_zero, List.set_cons_succ])
    refine wpAnyH_ready (rs := [7]) (by kernel_rfl) (by simp) (AllReadyH.cons rfl (fun K hK => ?_) AllReadyH.nil)
    refine step_append_any (P := Tryd.prog) _ rfl (.tmp 30) (.tmp 33) 37 rfl w5.drew.heap.size 3 i0 _ 1 8 Tryd.underlying37 HI0.out HZ0.out HZ1.out HZ2.out rfl (by omega) _ nd (dash.map (Value.int .i64)) rfl (own_keep hown ((Fr.refl [] w6).alloc (.cells #[.int .i64 pf] 3)) (by simp)) (fun _ => True) _ 1 1 [.int .i64 pf] rfl ((rd_new w6 3 [.int .i64 pf] 1 1 rfl).more (fun _ _ _ => trivial)) (by intro u hu; simp at hu; subst hu; rfl) (by simp only [maxLen]; omega) (by omega) (Nat.le_trans hf6.size ((Fr.refl [] w6).alloc _).size) ?_
    intro v2 w7 hown7 hg7 _
    have hf57 : Fr [] w5 w7 := ((hf56.alloc _).grown hg7 (fun k hk => .inr (own_base hown k hk)))
    rw [show dash.map (Value.int .i64) ++ [.int .i64 pf] = (dash ++ [pf]).map (Value.int .i64) by simp] at hown7
    obtain ⟨A2, c2, hv2, hkr⟩ := KR.own (b := b) (base := base) hown7 (show b < w5.drew.heap.size from hb5)
    rw [hv2]
    refine hK.out _ _ (HK.out _ (FrB.of0 hf57)) (fun hHeld => ?_); clear hK K; (try simp only [Act.put, List.setIfInBounds_toArray, List.set_cons_zero, List.set_cons_succ])
    refine wpAnyH_ready (rs := [8]) (by kernel_rfl) (by simp) (AllReadyH.cons rfl (fun K hK => ?_) AllReadyH.nil)
    go_simp
    go_at_call 13
    refine (numbers_pr (HBU.out.keep hf57) hkr HPF.out (by omega) (by omega)).mono ?_
    rintro e w8 ⟨rfl, hg8⟩
    refine hK.out _ _ (HK.out _ ((FrB.of0 hf57).trans hg8.2)) (fun hHeld => ?_); clear hK K; (try simp only [Act.put, List.setIfInBounds_toArray, List.set_cons_zero, List.set_cons_succ])
    refine wpAnyH_done (by kernel_rfl) ?_ _
    refine NoPanic.normal ?_
    go_wp2
    go_end0
    exact ⟨rfl, by rw [← HTX.out]; exact HG.out.trans (Grew.after hf57 hg8)⟩
  · go_simp
    refine hK.out _ _ (HK.out _ (FrB.of0 ((Fr.refl [] w5).drew.alloc _))) (fun hHeld => ?_); clear hK K; (try simp only [Act.put, List.setIfInBounds_toArray, List.set_cons_zero, List.set_cons_succ])
    refine wpAnyH_ready (rs := [3]) (by kernel_rfl) (by simp) (AllReadyH.cons rfl (fun K hK => ?_) AllReadyH.nil)
    go_simp
    go_at_call 49
    refine (HCL.out _ (HW5.out.trans (FrB.of0 ((Fr.refl [] w5).drew.alloc _)))).mono ?_
    rintro e w6 ⟨v', rfl, hown, hf6⟩
    have hf56 : Fr [] w5 w6 := Fr.then0 ((Fr.refl [] w5).drew.alloc _) hf6
    refine hK.out _ _ (HK.out _ (FrB.of0 hf56)) (fun hHeld => ?_); clear hK K; (try simp only [Act.put, List.setIfInBounds_toArray, List.set_cons_zero, List.set_cons_succ])
    refine wpAnyH_ready (rs := [7]) (by kernel_rfl) (by simp) (AllReadyH.cons rfl (fun K hK => ?_) AllReadyH.nil)
    refine step_append_any (P := Tryd.prog) _ rfl (.tmp 30) (.tmp 33) 37 rfl (w5.drew.alloc (.cells #[.int .i64 pf] 3)).heap.size 3 i0 _ 1 8 Tryd.underlying37 HI0.out HZ0.out HZ1.out HZ2.out rfl (by omega) _ nd (dash.map (Value.int .i64)) rfl hown (fun _ => True) _ 1 1 [.int .i64 pf] rfl (((rd_new w5.drew 3 [.int .i64 pf] 1 1 rfl).keep0 hf6).more (fun _ _ _ => trivial)) (by intro u hu; simp at hu; subst hu; rfl) (by simp only [maxLen]; omega) (by omega) hf6.size ?_
    intro v2 w7 hown7 hg7 _
    have hf57 : Fr [] w5 w7 := hf56.grown hg7 (fun k hk => .inr (Nat.le_trans ((Fr.refl [] w5.drew).alloc _).size (own_base hown k hk)))
    rw [show dash.map (Value.int .i64) ++ [.int .i64 pf] = (dash ++ [pf]).map (Value.int .i64) by simp] at hown7
    obtain ⟨A2, c2, hv2, hkr⟩ := KR.own (b := b) (base := base) hown7 (Nat.lt_of_lt_of_le (show b < w5.drew.heap.size from hb5) ((Fr.refl [] w5.drew).alloc _).size)
    rw [hv2]
    refine hK.out _ _ (HK.out _ (FrB.of0 hf57)) (fun hHeld => ?_); clear hK K; (try simp only [Act.put, List.setIfInBounds_toArray, List.set_cons_zero, List.set_cons_succ])
    refine wpAnyH_ready (rs := [8]) (by kernel_rfl) (by simp) (AllReadyH.cons rfl (fun K hK => ?_) AllReadyH.nil)
    go_simp
    go_at_call 13
    refine (numbers_pr (HBU.out.keep hf57) hkr HPF.out (by omega) (by omega)).mono ?_
    rintro e w8 ⟨rfl, hg8⟩
    refine hK.out _ _ (HK.out _ ((FrB.of0 hf57).trans hg8.2)) (fun hHeld => ?_); clear hK K; (try simp only [Act.put, List.setIfInBounds_toArray, List.set_cons_zero, List.set_cons_succ])
    refine wpAnyH_done (by kernel_rfl) ?_ _
    refine NoPanic.normal ?_
    go_wp2
    go_end0
    exact ⟨rfl, by rw [← HTX.out]; exact HG.out.trans (Grew.after hf57 hg8)⟩
end Go.Proofs.YtndfdekcdhlgoaaDoor
