/- Contract: the reader's object, whatever it begins with. -/
import Derived.Test.YtdjhjfpeckndkaaGreatDoorBkPairA
set_option linter.unusedVariables false
set_option linter.unusedSimpArgs false
namespace Go.Proofs.YtdjhjfpeckndkaaGreatDoor
open Go.RowKit
theorem OV.form {w : World} {N : Nat → Prop} {o0 o1 o2 o3 o4 o5 : Value} {o : PObj} (h : OV w N [o0, o1, o2, o3, o4, o5] o) :
    ∃ (kd x : Int) (t : List UInt8) (Ak : Option Addr) (nk ck : Nat) (Al : Option Addr) (nl cl : Nat) (Ad : Option Addr) (nd cd : Nat), o0 = .int .i64 kd ∧ o1 = .int .i64 x ∧ o2 = .string ⟨t.toArray⟩ ∧ o3 = .slice Ak nk ck ∧ o4 = .slice Al nl cl ∧ o5 = .slice Ad nd cd := by
  cases h
  exact ⟨_, _, _, _, _, _, _, _, _, _, _, _, rfl, rfl, rfl, rfl, rfl, rfl⟩
theorem ov_up {w W w2 : World} {q : Nat} {c0 c1 c2 c3 c4 c5 : Value} {o : PObj} (hov : OV w2 (fun g => W.heap.size ≤ g) [c0, c1, c2, c3, c4, c5] o) (hq : q < W.heap.size) (hw : w.heap.size ≤ W.heap.size) :
    OV ((((((w2.setCell ⟨q, 0, none⟩ c0).setCell ⟨q, 1, none⟩ c1).setCell ⟨q, 2, none⟩ c2).setCell ⟨q, 3, none⟩ c3).setCell ⟨q, 4, none⟩ c4).setCell ⟨q, 5, none⟩ c5) (fun g => w.heap.size ≤ g) [c0, c1, c2, c3, c4, c5] o :=
  (hov.keep (obj_frame (Fr.refl [q] w2) (.inl (by simp))) fun g hg hm => by rw [List.mem_singleton.1 hm] at hg; omega).more fun g _ hg => by omega
set_option maxRecDepth 100000 in
set_option maxHeartbeats 2000000 in
theorem object_name (r n c k : Nat) (A : Option Addr) (refs : Bool) (bs : List UInt8) (deep : Int) (u : UInt8) (w : World) (hs : St w r A n c k refs bs) (hu : bs[k]? = some u) (h47 : u.toNat = 47) :
    Calls Tryz.prog 68 #[.pointer (some ⟨r, 0, none⟩), .int .i64 deep] w (ObjR w r A n c refs bs (match nameP bs (k + 1) with | .error e => .error e | .ok (s, j) => .ok (simpleO 4 0 s, j))) := by
  have hd47 : ((u.toNat : Int) == 47) = true := by simp; omega
  clear h47
  have HN := hide (fun W (h : St W r A n c (k + 1) refs bs) => name_any r n c (k + 1) A refs bs W h)
  have hnl := fun s j1 (h : nameP bs (k + 1) = .ok (s, j1)) => nameP_len h
  generalize nameP bs (k + 1) = RN at *
  have hlt : k < n := by have := (List.getElem?_eq_some_iff.1 hu).1; rw [hs.len] at this; exact this
  have hsm := hs.small
  have hi1 : (0 : Int) ≤ (k : Int) := by omega
  have hi2 : (k : Int) < (n : Int) := by omega
  have HU := hide hu
  clear hu
  go_enter Tryz.func68, Tryz.ntmps68
  go_wp2_with fail
  obtain ⟨W0, hW0⟩ : ∃ W0, W0 = w.alloc (.cells #[.int .i64 0, .int .i64 0, .string ⟨#[]⟩, .slice none 0 0, .slice none 0 0, .slice none 0 0] 31) := ⟨_, rfl⟩
  have hs0 : St W0 r A n c k refs bs := by rw [hW0]; exact hs.keep0 (by repeat (first | with_reducible exact Fr.refl _ _ | with_reducible assumption | with_reducible refine Fr.drewN ?_ _ | with_reducible refine Fr.drew ?_ | with_reducible refine Fr.alloc ?_ _ | ((with_reducible refine Fr.setCell ?_ ?_ _) <;> first | (apply Or.inl; simp; done) | (apply Or.inr; simp; done) | (apply Or.inr; simp; omega) | skip) | (refine Fr.then0 ?_ (by with_reducible assumption)) | (refine Fr.trans ?_ (by with_reducible assumption))))
  have hf0 : Fr [r] w W0 := by rw [hW0]; exact (by repeat (first | with_reducible exact Fr.refl _ _ | with_reducible assumption | with_reducible refine Fr.drewN ?_ _ | with_reducible refine Fr.drew ?_ | with_reducible refine Fr.alloc ?_ _ | ((with_reducible refine Fr.setCell ?_ ?_ _) <;> first | (apply Or.inl; simp; done) | (apply Or.inr; simp; done) | (apply Or.inr; simp; omega) | skip) | (refine Fr.then0 ?_ (by with_reducible assumption)) | (refine Fr.trans ?_ (by with_reducible assumption))))
  have hB0 : Blk W0 w.heap.size 31 #[.int .i64 0, .int .i64 0, .string ⟨#[]⟩, .slice none 0 0, .slice none 0 0, .slice none 0 0] := by rw [hW0]; exact Blk.new _ _ _
  rw [← hW0]
  clear hW0
  obtain ⟨q, hq⟩ : ∃ q, q = w.heap.size := ⟨_, rfl⟩
  rw [← hq] at hB0 ⊢
  have HQ : Hid (w.heap.size ≤ q) := hide (by omega)
  clear hq
  have hAq : ∀ ad, A = some ad → 0 < n → ad.block ≠ q := fun ad h1 h2 => by
    have := (hs.blockA ad h1 h2).1
    have := HQ.out
    omega
  have HAQ := hide hAq
  clear hAq
  have nqr : q ≠ r := hB0.ne_ hs0.blk (by decide)
  have nqr' := Ne.symm nqr
  have hql := hB0.lt
  obtain ⟨ad, hA, hadr, hcb⟩ := hs0.rb.at2 HU.out
  subst hA
  obtain ⟨c0, c1, c2, cz⟩ := hs0.blk.c3
  go_quiet (fail)
  have hs1 : ∀ m, St (W0.drewN m) r (some ad) n c k refs bs := fun m => hs0.keep0 ((Fr.refl _ _).drewN m)
  have hs2 : ∀ m, St ((W0.drewN m).setCell ⟨r, 1, none⟩ (.int .i64 ((k : Int) + 1))) r (some ad) n c (k + 1) refs bs := fun m => (hs1 m).set_ (k + 1) (by omega)
  have hf2 : ∀ m, Fr [r] w ((W0.drewN m).setCell ⟨r, 1, none⟩ (.int .i64 ((k : Int) + 1))) := fun m => (hf0.drewN m).setCell (p := ⟨r, 1, none⟩) (.inl (by simp)) _
  have hB2 : ∀ m, Blk ((W0.drewN m).setCell ⟨r, 1, none⟩ (.int .i64 ((k : Int) + 1))) q 31 #[.int .i64 0, .int .i64 0, .string ⟨#[]⟩, .slice none 0 0, .slice none 0 0, .slice none 0 0] := fun m => (hB0.drewN m).far (p := ⟨r, 1, none⟩) nqr _
  cases RN with
  | error x =>
    go_wp2_with (go_at_call 118; refine (HN.out _ (hs2 _)).mono ?_; rintro e w3 ⟨rfl, hf3⟩)
    exact ⟨rfl, rfl, (hf2 _).trans hf3⟩
  | ok sj =>
    obtain ⟨s, j⟩ := sj
    have hsl := hnl s j rfl
    clear hnl
    go_wp2_with (go_at_call 118; refine (HN.out _ (hs2 _)).mono ?_; rintro e w3 ⟨rfl, hs3, hf3⟩; have hB3 := (hB2 _).keep hf3 (by simpa using nqr); obtain ⟨d0, d1, d2, d3, d4, d5, dz⟩ := hB3.c6; have hlt3 := hB3.lt; have hne3 := Nat.ne_of_lt hlt3)
    refine bodyPost_ret (v := pobjV 4 0 s) (by simp [results, Tryz.results68, go_sem, d0, d1, d2, d3, d4, d5, hlt3, hne3]) rfl ?_
    refine objR_simple (by unfold maxLen; omega) ?_ ?_
    · exact St.obj hs3 nqr HAQ.out
    · exact obj_frame ((hf2 _).trans hf3) (.inr HQ.out)
set_option maxRecDepth 100000 in
set_option maxHeartbeats 2000000 in
theorem object_list (F : Nat) (H : ∀ f, f < F → ObjOK f) (r n c k : Nat) (A : Option Addr) (refs : Bool) (bs : List UInt8) (deep : Int) (u : UInt8) (w : World) (hs : St w r A n c k refs bs) (hu : bs[k]? = some u) (h91 : u.toNat = 91) (hdp : deep ≤ 4611686018427387904) (h1 : ¬ deep < 1) (h99 : listP F bs refs (deep - 1) (k + 1) [] ≠ .error 99) :
    Calls Tryz.prog 68 #[.pointer (some ⟨r, 0, none⟩), .int .i64 deep] w (ObjR w r A n c refs bs (listP F bs refs (deep - 1) (k + 1) [])) := by
  have hd47 : ((u.toNat : Int) == 47) = false := by simp; omega
  have hd91 : ((u.toNat : Int) == 91) = true := by simp; omega
  have hdd : decide (deep < 1) = false := by simpa using h1
  have hde : (deep - 1 : Int) ≤ 4611686018427387904 := by omega
  have hde2 : (1 : Int) ≤ deep := by omega
  have HL := hide (fun W (h : St W r A n c (k + 1) refs bs) => list_any F H r n c (k + 1) A refs bs (deep - 1) W h hde h99)
  clear h99 h1 h91
  generalize listP F bs refs (deep - 1) (k + 1) [] = RL at *
  have hlt : k < n := by have := (List.getElem?_eq_some_iff.1 hu).1; rw [hs.len] at this; exact this
  have hsm := hs.small
  have hi1 : (0 : Int) ≤ (k : Int) := by omega
  have hi2 : (k : Int) < (n : Int) := by omega
  have HU := hide hu
  clear hu
  go_enter Tryz.func68, Tryz.ntmps68
  go_wp2_with fail
  obtain ⟨W0, hW0⟩ : ∃ W0, W0 = w.alloc (.cells #[.int .i64 0, .int .i64 0, .string ⟨#[]⟩, .slice none 0 0, .slice none 0 0, .slice none 0 0] 31) := ⟨_, rfl⟩
  have hs0 : St W0 r A n c k refs bs := by rw [hW0]; exact hs.keep0 (by repeat (first | with_reducible exact Fr.refl _ _ | with_reducible assumption | with_reducible refine Fr.drewN ?_ _ | with_reducible refine Fr.drew ?_ | with_reducible refine Fr.alloc ?_ _ | ((with_reducible refine Fr.setCell ?_ ?_ _) <;> first | (apply Or.inl; simp; done) | (apply Or.inr; simp; done) | (apply Or.inr; simp; omega) | skip) | (refine Fr.then0 ?_ (by with_reducible assumption)) | (refine Fr.trans ?_ (by with_reducible assumption))))
  have hf0 : Fr [r] w W0 := by rw [hW0]; exact (by repeat (first | with_reducible exact Fr.refl _ _ | with_reducible assumption | with_reducible refine Fr.drewN ?_ _ | with_reducible refine Fr.drew ?_ | with_reducible refine Fr.alloc ?_ _ | ((with_reducible refine Fr.setCell ?_ ?_ _) <;> first | (apply Or.inl; simp; done) | (apply Or.inr; simp; done) | (apply Or.inr; simp; omega) | skip) | (refine Fr.then0 ?_ (by with_reducible assumption)) | (refine Fr.trans ?_ (by with_reducible assumption))))
  have hB0 : Blk W0 w.heap.size 31 #[.int .i64 0, .int .i64 0, .string ⟨#[]⟩, .slice none 0 0, .slice none 0 0, .slice none 0 0] := by rw [hW0]; exact Blk.new _ _ _
  rw [← hW0]
  clear hW0
  obtain ⟨q, hq⟩ : ∃ q, q = w.heap.size := ⟨_, rfl⟩
  rw [← hq] at hB0 ⊢
  have HQ : Hid (w.heap.size ≤ q) := hide (by omega)
  clear hq
  have hAq : ∀ ad, A = some ad → 0 < n → ad.block ≠ q := fun ad h1 h2 => by
    have := (hs.blockA ad h1 h2).1
    have := HQ.out
    omega
  have HAQ := hide hAq
  clear hAq
  have nqr : q ≠ r := hB0.ne_ hs0.blk (by decide)
  have nqr' := Ne.symm nqr
  have hql := hB0.lt
  obtain ⟨ad, hA, hadr, hcb⟩ := hs0.rb.at2 HU.out
  subst hA
  obtain ⟨c0, c1, c2, cz⟩ := hs0.blk.c3
  go_quiet (fail)
  have hs1 : ∀ m, St (W0.drewN m) r (some ad) n c k refs bs := fun m => hs0.keep0 ((Fr.refl _ _).drewN m)
  have hs2 : ∀ m, St ((W0.drewN m).setCell ⟨r, 1, none⟩ (.int .i64 ((k : Int) + 1))) r (some ad) n c (k + 1) refs bs := fun m => (hs1 m).set_ (k + 1) (by omega)
  have hf2 : ∀ m, Fr [r] w ((W0.drewN m).setCell ⟨r, 1, none⟩ (.int .i64 ((k : Int) + 1))) := fun m => (hf0.drewN m).setCell (p := ⟨r, 1, none⟩) (.inl (by simp)) _
  have hB2 : ∀ m, Blk ((W0.drewN m).setCell ⟨r, 1, none⟩ (.int .i64 ((k : Int) + 1))) q 31 #[.int .i64 0, .int .i64 0, .string ⟨#[]⟩, .slice none 0 0, .slice none 0 0, .slice none 0 0] := fun m => (hB0.drewN m).far (p := ⟨r, 1, none⟩) nqr _
  cases RL with
  | error x =>
    go_wp2_with (go_at_call 120; refine (HL.out _ (hs2 _)).mono ?_; rintro e w3 ⟨rfl, hf3⟩)
    exact ⟨rfl, rfl, (hf2 _).trans hf3⟩
  | ok oj =>
    obtain ⟨o, j⟩ := oj
    go_wp2_with (go_at_call 120; refine (HL.out _ (hs2 _)).mono ?_; rintro e w3 ⟨o0, o1, o2, o3, o4, o5, rfl, hov, hs3, hf3⟩; obtain ⟨kd, x, t, Ak, nk, ck, Al, nl, cl, Ad, nd, cd, rfl, rfl, rfl, rfl, rfl, rfl⟩ := hov.form; have hB3 := (hB2 _).keep hf3 (by simpa using nqr); obtain ⟨d0, d1, d2, d3, d4, d5, dz⟩ := hB3.c6; have hlt3 := hB3.lt; have hne3 := Nat.ne_of_lt hlt3)
    refine bodyPost_ret (v := .agg #[.int .i64 kd, .int .i64 x, .string ⟨t.toArray⟩, .slice Ak nk ck, .slice Al nl cl, .slice Ad nd cd]) (by simp [results, Tryz.results68, go_sem, d0, d1, d2, d3, d4, d5, hlt3, hne3]) rfl ?_
    refine ⟨_, _, _, _, _, _, rfl, ov_up hov (hB2 _).lt (hf2 _).size, ?_, ?_⟩
    · exact St.obj hs3 nqr HAQ.out
    · exact obj_frame ((hf2 _).trans hf3) (.inr HQ.out)
set_option maxRecDepth 100000 in
set_option maxHeartbeats 2000000 in
theorem object_pairs (F : Nat) (H : ∀ f, f < F → ObjOK f) (r n c k : Nat) (A : Option Addr) (refs : Bool) (bs : List UInt8) (deep : Int) (u : UInt8) (w : World) (hs : St w r A n c k refs bs) (hu : bs[k]? = some u) (h60 : u.toNat = 60) (v : UInt8) (hv : bs[k + 1]? = some v) (hv60 : v.toNat = 60) (hdp : deep ≤ 4611686018427387904) (h1 : ¬ deep < 1) (h99 : pairsP F bs refs (deep - 1) (k + 2) [] [] ≠ .error 99) :
    Calls Tryz.prog 68 #[.pointer (some ⟨r, 0, none⟩), .int .i64 deep] w (ObjR w r A n c refs bs (pairsP F bs refs (deep - 1) (k + 2) [] [])) := by
  have hd47 : ((u.toNat : Int) == 47) = false := by simp; omega
  have hd91 : ((u.toNat : Int) == 91) = false := by simp; omega
  have hd40 : ((u.toNat : Int) == 40) = false := by simp; omega
  have hd60 : ((u.toNat : Int) == 60) = true := by simp; omega
  have HV := hide hv
  clear hv
  have hdd : decide (deep < 1) = false := by simpa using h1
  have hde : (deep - 1 : Int) ≤ 4611686018427387904 := by omega
  have hde2 : (1 : Int) ≤ deep := by omega
  have HL := hide (fun W (h : St W r A n c (k + 2) refs bs) => pairs_any F H r n c (k + 2) A refs bs (deep - 1) W h hde h99)
  clear h99 h1 h60
  generalize pairsP F bs refs (deep - 1) (k + 2) [] [] = RL at *
  have hlt : k < n := by have := (List.getElem?_eq_some_iff.1 hu).1; rw [hs.len] at this; exact this
  have hsm := hs.small
  have hi1 : (0 : Int) ≤ (k : Int) := by omega
  have hi2 : (k : Int) < (n : Int) := by omega
  have HU := hide hu
  clear hu
  go_enter Tryz.func68, Tryz.ntmps68
  go_wp2_with fail
  obtain ⟨W0, hW0⟩ : ∃ W0, W0 = w.alloc (.cells #[.int .i64 0, .int .i64 0, .string ⟨#[]⟩, .slice none 0 0, .slice none 0 0, .slice none 0 0] 31) := ⟨_, rfl⟩
  have hs0 : St W0 r A n c k refs bs := by rw [hW0]; exact hs.keep0 (by repeat (first | with_reducible exact Fr.refl _ _ | with_reducible assumption | with_reducible refine Fr.drewN ?_ _ | with_reducible refine Fr.drew ?_ | with_reducible refine Fr.alloc ?_ _ | ((with_reducible refine Fr.setCell ?_ ?_ _) <;> first | (apply Or.inl; simp; done) | (apply Or.inr; simp; done) | (apply Or.inr; simp; omega) | skip) | (refine Fr.then0 ?_ (by with_reducible assumption)) | (refine Fr.trans ?_ (by with_reducible assumption))))
  have hf0 : Fr [r] w W0 := by rw [hW0]; exact (by repeat (first | with_reducible exact Fr.refl _ _ | with_reducible assumption | with_reducible refine Fr.drewN ?_ _ | with_reducible refine Fr.drew ?_ | with_reducible refine Fr.alloc ?_ _ | ((with_reducible refine Fr.setCell ?_ ?_ _) <;> first | (apply Or.inl; simp; done) | (apply Or.inr; simp; done) | (apply Or.inr; simp; omega) | skip) | (refine Fr.then0 ?_ (by with_reducible assumption)) | (refine Fr.trans ?_ (by with_reducible assumption))))
  have hB0 : Blk W0 w.heap.size 31 #[.int .i64 0, .int .i64 0, .string ⟨#[]⟩, .slice none 0 0, .slice none 0 0, .slice none 0 0] := by rw [hW0]; exact Blk.new _ _ _
  rw [← hW0]
  clear hW0
  obtain ⟨q, hq⟩ : ∃ q, q = w.heap.size := ⟨_, rfl⟩
  rw [← hq] at hB0 ⊢
  have HQ : Hid (w.heap.size ≤ q) := hide (by omega)
  clear hq
  have hAq : ∀ ad, A = some ad → 0 < n → ad.block ≠ q := fun ad h1 h2 => by
    have := (hs.blockA ad h1 h2).1
    have := HQ.out
    omega
  have HAQ := hide hAq
  clear hAq
  have nqr : q ≠ r := hB0.ne_ hs0.blk (by decide)
  have nqr' := Ne.symm nqr
  have hql := hB0.lt
  obtain ⟨ad, hA, hadr, hcb⟩ := hs0.rb.at2 HU.out
  subst hA
  obtain ⟨c0, c1, c2, cz⟩ := hs0.blk.c3
  go_quiet (fail)
  have hs1 : ∀ m, St (W0.drewN m) r (some ad) n c k refs bs := fun m => hs0.keep0 ((Fr.refl _ _).drewN m)
  have hlt2 : k + 1 < n := by have := (List.getElem?_eq_some_iff.1 HV.out).1; rw [hs0.len] at this; exact this
  have hdn : decide ((n : Int) ≤ (k : Int) + 1) = false := by simp; omega
  have hj1 : (0 : Int) ≤ (k : Int) + 1 := by omega
  have hj2 : (k : Int) + 1 < (n : Int) := by omega
  have hj3 : ((k : Int) + 1).toNat = k + 1 := by omega
  obtain ⟨ad', hA', hadr', hcb'⟩ := hs0.rb.at2 HV.out
  obtain rfl : ad = ad' := by injection hA'
  have hcb2 : W0.cell? ⟨ad.block, ad.off + (k + 1), none⟩ = some (.int .u8 v.toNat) := by
    have := hcb'
    unfold Addr.add at this
    simpa using this
  clear hA' hcb'
  have hne60 : ((v.toNat : Int) != 60) = false := by simp; omega
  go_wp2
  have hw1 : IntKind.i64.wrap ((k : Int) + 1) = (k : Int) + 1 := IntWalk.i64_in _ (by omega)
  go_quiet (fail)
  go_wp2
  go_quiet (fail)
  clear hw1
  have hs2 : ∀ m, St ((W0.drewN m).setCell ⟨r, 1, none⟩ (.int .i64 ((k : Int) + 2))) r (some ad) n c (k + 2) refs bs := fun m => (hs1 m).set_ (k + 2) (by omega)
  have hf2 : ∀ m, Fr [r] w ((W0.drewN m).setCell ⟨r, 1, none⟩ (.int .i64 ((k : Int) + 2))) := fun m => (hf0.drewN m).setCell (p := ⟨r, 1, none⟩) (.inl (by simp)) _
  have hB2 : ∀ m, Blk ((W0.drewN m).setCell ⟨r, 1, none⟩ (.int .i64 ((k : Int) + 2))) q 31 #[.int .i64 0, .int .i64 0, .string ⟨#[]⟩, .slice none 0 0, .slice none 0 0, .slice none 0 0] := fun m => (hB0.drewN m).far (p := ⟨r, 1, none⟩) nqr _
  cases RL with
  | error x =>
    go_wp2_with (go_at_call 122; refine (HL.out _ (hs2 _)).mono ?_; rintro e w3 ⟨rfl, hf3⟩)
    exact ⟨rfl, rfl, (hf2 _).trans hf3⟩
  | ok oj =>
    obtain ⟨o, j⟩ := oj
    go_wp2_with (go_at_call 122; refine (HL.out _ (hs2 _)).mono ?_; rintro e w3 ⟨o0, o1, o2, o3, o4, o5, rfl, hov, hs3, hf3⟩; obtain ⟨kd, x, t, Ak, nk, ck, Al, nl, cl, Ad, nd, cd, rfl, rfl, rfl, rfl, rfl, rfl⟩ := hov.form; have hB3 := (hB2 _).keep hf3 (by simpa using nqr); obtain ⟨d0, d1, d2, d3, d4, d5, dz⟩ := hB3.c6; have hlt3 := hB3.lt; have hne3 := Nat.ne_of_lt hlt3)
    refine bodyPost_ret (v := .agg #[.int .i64 kd, .int .i64 x, .string ⟨t.toArray⟩, .slice Ak nk ck, .slice Al nl cl, .slice Ad nd cd]) (by simp [results, Tryz.results68, go_sem, d0, d1, d2, d3, d4, d5, hlt3, hne3]) rfl ?_
    refine ⟨_, _, _, _, _, _, rfl, ov_up hov (hB2 _).lt (hf2 _).size, ?_, ?_⟩
    · exact St.obj hs3 nqr HAQ.out
    · exact obj_frame ((hf2 _).trans hf3) (.inr HQ.out)
set_option maxRecDepth 100000 in
set_option maxHeartbeats 2000000 in
theorem object_deep1 (r n c k : Nat) (A : Option Addr) (refs : Bool) (bs : List UInt8) (deep : Int) (u : UInt8) (w : World) (hs : St w r A n c k refs bs) (hu : bs[k]? = some u) (h91 : u.toNat = 91) (h1 : deep < 1) :
    Calls Tryz.prog 68 #[.pointer (some ⟨r, 0, none⟩), .int .i64 deep] w (ObjR w r A n c refs bs (.error 25)) := by
  have hd47 : ((u.toNat : Int) == 47) = false := by simp; omega
  have hd91 : ((u.toNat : Int) == 91) = true := by simp; omega
  have hdd : decide (deep < 1) = true := by simpa using h1
  clear h91
  have hlt : k < n := by have := (List.getElem?_eq_some_iff.1 hu).1; rw [hs.len] at this; exact this
  have hsm := hs.small
  have hi1 : (0 : Int) ≤ (k : Int) := by omega
  have hi2 : (k : Int) < (n : Int) := by omega
  have HU := hide hu
  clear hu
  go_enter Tryz.func68, Tryz.ntmps68
  go_wp2_with fail
  obtain ⟨W0, hW0⟩ : ∃ W0, W0 = w.alloc (.cells #[.int .i64 0, .int .i64 0, .string ⟨#[]⟩, .slice none 0 0, .slice none 0 0, .slice none 0 0] 31) := ⟨_, rfl⟩
  have hs0 : St W0 r A n c k refs bs := by rw [hW0]; exact hs.keep0 (by repeat (first | with_reducible exact Fr.refl _ _ | with_reducible assumption | with_reducible refine Fr.drewN ?_ _ | with_reducible refine Fr.drew ?_ | with_reducible refine Fr.alloc ?_ _ | ((with_reducible refine Fr.setCell ?_ ?_ _) <;> first | (apply Or.inl; simp; done) | (apply Or.inr; simp; done) | (apply Or.inr; simp; omega) | skip) | (refine Fr.then0 ?_ (by with_reducible assumption)) | (refine Fr.trans ?_ (by with_reducible assumption))))
  have hf0 : Fr [r] w W0 := by rw [hW0]; exact (by repeat (first | with_reducible exact Fr.refl _ _ | with_reducible assumption | with_reducible refine Fr.drewN ?_ _ | with_reducible refine Fr.drew ?_ | with_reducible refine Fr.alloc ?_ _ | ((with_reducible refine Fr.setCell ?_ ?_ _) <;> first | (apply Or.inl; simp; done) | (apply Or.inr; simp; done) | (apply Or.inr; simp; omega) | skip) | (refine Fr.then0 ?_ (by with_reducible assumption)) | (refine Fr.trans ?_ (by with_reducible assumption))))
  have hB0 : Blk W0 w.heap.size 31 #[.int .i64 0, .int .i64 0, .string ⟨#[]⟩, .slice none 0 0, .slice none 0 0, .slice none 0 0] := by rw [hW0]; exact Blk.new _ _ _
  rw [← hW0]
  clear hW0
  obtain ⟨q, hq⟩ : ∃ q, q = w.heap.size := ⟨_, rfl⟩
  rw [← hq] at hB0 ⊢
  have HQ : Hid (w.heap.size ≤ q) := hide (by omega)
  clear hq
  have hAq : ∀ ad, A = some ad → 0 < n → ad.block ≠ q := fun ad h1 h2 => by
    have := (hs.blockA ad h1 h2).1
    have := HQ.out
    omega
  have HAQ := hide hAq
  clear hAq
  have nqr : q ≠ r := hB0.ne_ hs0.blk (by decide)
  have nqr' := Ne.symm nqr
  have hql := hB0.lt
  obtain ⟨ad, hA, hadr, hcb⟩ := hs0.rb.at2 HU.out
  subst hA
  obtain ⟨c0, c1, c2, cz⟩ := hs0.blk.c3
  go_quiet (fail)
  have hs1 : ∀ m, St (W0.drewN m) r (some ad) n c k refs bs := fun m => hs0.keep0 ((Fr.refl _ _).drewN m)
  go_wp2_with (go_at_call 119; refine (fail_any _ _).mono ?_; rintro e w2 ⟨rfl, rfl⟩)
  exact ⟨rfl, rfl, hf0.drewN _⟩
set_option maxRecDepth 100000 in
set_option maxHeartbeats 2000000 in
theorem object_deep2 (r n c k : Nat) (A : Option Addr) (refs : Bool) (bs : List UInt8) (deep : Int) (u : UInt8) (w : World) (hs : St w r A n c k refs bs) (hu : bs[k]? = some u) (h60 : u.toNat = 60) (v : UInt8) (hv : bs[k + 1]? = some v) (hv60 : v.toNat = 60) (h1 : deep < 1) :
    Calls Tryz.prog 68 #[.pointer (some ⟨r, 0, none⟩), .int .i64 deep] w (ObjR w r A n c refs bs (.error 25)) := by
  have hd47 : ((u.toNat : Int) == 47) = false := by simp; omega
  have hd91 : ((u.toNat : Int) == 91) = false := by simp; omega
  have hd40 : ((u.toNat : Int) == 40) = false := by simp; omega
  have hd60 : ((u.toNat : Int) == 60) = true := by simp; omega
  have hdd : decide (deep < 1) = true := by simpa using h1
  have HV := hide hv
  clear hv h60
  have hlt : k < n := by have := (List.getElem?_eq_some_iff.1 hu).1; rw [hs.len] at this; exact this
  have hsm := hs.small
  have hi1 : (0 : Int) ≤ (k : Int) := by omega
  have hi2 : (k : Int) < (n : Int) := by omega
  have HU := hide hu
  clear hu
  go_enter Tryz.func68, Tryz.ntmps68
  go_wp2_with fail
  obtain ⟨W0, hW0⟩ : ∃ W0, W0 = w.alloc (.cells #[.int .i64 0, .int .i64 0, .string ⟨#[]⟩, .slice none 0 0, .slice none 0 0, .slice none 0 0] 31) := ⟨_, rfl⟩
  have hs0 : St W0 r A n c k refs bs := by rw [hW0]; exact hs.keep0 (by repeat (first | with_reducible exact Fr.refl _ _ | with_reducible assumption | with_reducible refine Fr.drewN ?_ _ | with_reducible refine Fr.drew ?_ | with_reducible refine Fr.alloc ?_ _ | ((with_reducible refine Fr.setCell ?_ ?_ _) <;> first | (apply Or.inl; simp; done) | (apply Or.inr; simp; done) | (apply Or.inr; simp; omega) | skip) | (refine Fr.then0 ?_ (by with_reducible assumption)) | (refine Fr.trans ?_ (by with_reducible assumption))))
  have hf0 : Fr [r] w W0 := by rw [hW0]; exact (by repeat (first | with_reducible exact Fr.refl _ _ | with_reducible assumption | with_reducible refine Fr.drewN ?_ _ | with_reducible refine Fr.drew ?_ | with_reducible refine Fr.alloc ?_ _ | ((with_reducible refine Fr.setCell ?_ ?_ _) <;> first | (apply Or.inl; simp; done) | (apply Or.inr; simp; done) | (apply Or.inr; simp; omega) | skip) | (refine Fr.then0 ?_ (by with_reducible assumption)) | (refine Fr.trans ?_ (by with_reducible assumption))))
  have hB0 : Blk W0 w.heap.size 31 #[.int .i64 0, .int .i64 0, .string ⟨#[]⟩, .slice none 0 0, .slice none 0 0, .slice none 0 0] := by rw [hW0]; exact Blk.new _ _ _
  rw [← hW0]
  clear hW0
  obtain ⟨q, hq⟩ : ∃ q, q = w.heap.size := ⟨_, rfl⟩
  rw [← hq] at hB0 ⊢
  have HQ : Hid (w.heap.size ≤ q) := hide (by omega)
  clear hq
  have hAq : ∀ ad, A = some ad → 0 < n → ad.block ≠ q := fun ad h1 h2 => by
    have := (hs.blockA ad h1 h2).1
    have := HQ.out
    omega
  have HAQ := hide hAq
  clear hAq
  have nqr : q ≠ r := hB0.ne_ hs0.blk (by decide)
  have nqr' := Ne.symm nqr
  have hql := hB0.lt
  obtain ⟨ad, hA, hadr, hcb⟩ := hs0.rb.at2 HU.out
  subst hA
  obtain ⟨c0, c1, c2, cz⟩ := hs0.blk.c3
  go_quiet (fail)
  have hs1 : ∀ m, St (W0.drewN m) r (some ad) n c k refs bs := fun m => hs0.keep0 ((Fr.refl _ _).drewN m)
  have hlt2 : k + 1 < n := by have := (List.getElem?_eq_some_iff.1 HV.out).1; rw [hs0.len] at this; exact this
  have hdn : decide ((n : Int) ≤ (k : Int) + 1) = false := by simp; omega
  have hj1 : (0 : Int) ≤ (k : Int) + 1 := by omega
  have hj2 : (k : Int) + 1 < (n : Int) := by omega
  have hj3 : ((k : Int) + 1).toNat = k + 1 := by omega
  obtain ⟨ad', hA', hadr', hcb'⟩ := hs0.rb.at2 HV.out
  obtain rfl : ad = ad' := by injection hA'
  have hcb2 : W0.cell? ⟨ad.block, ad.off + (k + 1), none⟩ = some (.int .u8 v.toNat) := by
    have := hcb'
    unfold Addr.add at this
    simpa using this
  clear hA' hcb'
  have hne60 : ((v.toNat : Int) != 60) = false := by simp; omega
  go_wp2
  have hw1 : IntKind.i64.wrap ((k : Int) + 1) = (k : Int) + 1 := IntWalk.i64_in _ (by omega)
  go_quiet (fail)
  go_wp2
  go_quiet (fail)
  clear hw1
  go_wp2_with (go_at_call 119; refine (fail_any _ _).mono ?_; rintro e w2 ⟨rfl, rfl⟩)
  exact ⟨rfl, rfl, hf0.drewN _⟩
set_option maxRecDepth 100000 in
set_option maxHeartbeats 2000000 in
theorem object_short (r n c k : Nat) (A : Option Addr) (refs : Bool) (bs : List UInt8) (deep : Int) (u : UInt8) (w : World) (hs : St w r A n c k refs bs) (hu : bs[k]? = some u) (h60 : u.toNat = 60) (hv : bs[k + 1]? = none) :
    Calls Tryz.prog 68 #[.pointer (some ⟨r, 0, none⟩), .int .i64 deep] w (ObjR w r A n c refs bs (.error 24)) := by
  have hd47 : ((u.toNat : Int) == 47) = false := by simp; omega
  have hd91 : ((u.toNat : Int) == 91) = false := by simp; omega
  have hd40 : ((u.toNat : Int) == 40) = false := by simp; omega
  have hd60 : ((u.toNat : Int) == 60) = true := by simp; omega
  have hge : n ≤ k + 1 := by have := List.getElem?_eq_none_iff.1 hv; rw [hs.len] at this; exact this
  have hdn : decide ((n : Int) ≤ (k : Int) + 1) = true := by simp; omega
  clear hv h60
  have hlt : k < n := by have := (List.getElem?_eq_some_iff.1 hu).1; rw [hs.len] at this; exact this
  have hsm := hs.small
  have hi1 : (0 : Int) ≤ (k : Int) := by omega
  have hi2 : (k : Int) < (n : Int) := by omega
  have HU := hide hu
  clear hu
  go_enter Tryz.func68, Tryz.ntmps68
  go_wp2_with fail
  obtain ⟨W0, hW0⟩ : ∃ W0, W0 = w.alloc (.cells #[.int .i64 0, .int .i64 0, .string ⟨#[]⟩, .slice none 0 0, .slice none 0 0, .slice none 0 0] 31) := ⟨_, rfl⟩
  have hs0 : St W0 r A n c k refs bs := by rw [hW0]; exact hs.keep0 (by repeat (first | with_reducible exact Fr.refl _ _ | with_reducible assumption | with_reducible refine Fr.drewN ?_ _ | with_reducible refine Fr.drew ?_ | with_reducible refine Fr.alloc ?_ _ | ((with_reducible refine Fr.setCell ?_ ?_ _) <;> first | (apply Or.inl; simp; done) | (apply Or.inr; simp; done) | (apply Or.inr; simp; omega) | skip) | (refine Fr.then0 ?_ (by with_reducible assumption)) | (refine Fr.trans ?_ (by with_reducible assumption))))
  have hf0 : Fr [r] w W0 := by rw [hW0]; exact (by repeat (first | with_reducible exact Fr.refl _ _ | with_reducible assumption | with_reducible refine Fr.drewN ?_ _ | with_reducible refine Fr.drew ?_ | with_reducible refine Fr.alloc ?_ _ | ((with_reducible refine Fr.setCell ?_ ?_ _) <;> first | (apply Or.inl; simp; done) | (apply Or.inr; simp; done) | (apply Or.inr; simp; omega) | skip) | (refine Fr.then0 ?_ (by with_reducible assumption)) | (refine Fr.trans ?_ (by with_reducible assumption))))
  have hB0 : Blk W0 w.heap.size 31 #[.int .i64 0, .int .i64 0, .string ⟨#[]⟩, .slice none 0 0, .slice none 0 0, .slice none 0 0] := by rw [hW0]; exact Blk.new _ _ _
  rw [← hW0]
  clear hW0
  obtain ⟨q, hq⟩ : ∃ q, q = w.heap.size := ⟨_, rfl⟩
  rw [← hq] at hB0 ⊢
  have HQ : Hid (w.heap.size ≤ q) := hide (by omega)
  clear hq
  have hAq : ∀ ad, A = some ad → 0 < n → ad.block ≠ q := fun ad h1 h2 => by
    have := (hs.blockA ad h1 h2).1
    have := HQ.out
    omega
  have HAQ := hide hAq
  clear hAq
  have nqr : q ≠ r := hB0.ne_ hs0.blk (by decide)
  have nqr' := Ne.symm nqr
  have hql := hB0.lt
  obtain ⟨ad, hA, hadr, hcb⟩ := hs0.rb.at2 HU.out
  subst hA
  obtain ⟨c0, c1, c2, cz⟩ := hs0.blk.c3
  go_quiet (fail)
  have hs1 : ∀ m, St (W0.drewN m) r (some ad) n c k refs bs := fun m => hs0.keep0 ((Fr.refl _ _).drewN m)
  go_wp2
  have hw1 : IntKind.i64.wrap ((k : Int) + 1) = (k : Int) + 1 := IntWalk.i64_in _ (by omega)
  go_quiet (fail)
  clear hw1
  go_wp2_with (go_at_call 119; refine (fail_any _ _).mono ?_; rintro e w2 ⟨rfl, rfl⟩)
  exact ⟨rfl, rfl, hf0.drewN _⟩
set_option maxRecDepth 100000 in
set_option maxHeartbeats 2000000 in
theorem object_round (r n c k : Nat) (A : Option Addr) (refs : Bool) (bs : List UInt8) (deep : Int) (u : UInt8) (w : World) (hs : St w r A n c k refs bs) (hu : bs[k]? = some u) (h40 : u.toNat = 40) :
    Calls Tryz.prog 68 #[.pointer (some ⟨r, 0, none⟩), .int .i64 deep] w (ObjR w r A n c refs bs (match textP bs k with | .error e => .error e | .ok (s, j) => .ok (simpleO 5 0 s, j))) := by
  have hd47 : ((u.toNat : Int) == 47) = false := by simp; omega
  have hd91 : ((u.toNat : Int) == 91) = false := by simp; omega
  have hd40 : ((u.toNat : Int) == 40) = true := by simp; omega
  have HT := hide (fun W (h : St W r A n c k refs bs) => text_any r n c k A refs bs W h (.inl (by rw [hu]; exact congrArg some (UInt8.toNat_inj.1 h40))))
  have htl := fun s j1 (h : textP bs k = .ok (s, j1)) => textP_len h
  generalize textP bs k = RT at *
  clear h40
  have hlt : k < n := by have := (List.getElem?_eq_some_iff.1 hu).1; rw [hs.len] at this; exact this
  have hsm := hs.small
  have hi1 : (0 : Int) ≤ (k : Int) := by omega
  have hi2 : (k : Int) < (n : Int) := by omega
  have HU := hide hu
  clear hu
  go_enter Tryz.func68, Tryz.ntmps68
  go_wp2_with fail
  obtain ⟨W0, hW0⟩ : ∃ W0, W0 = w.alloc (.cells #[.int .i64 0, .int .i64 0, .string ⟨#[]⟩, .slice none 0 0, .slice none 0 0, .slice none 0 0] 31) := ⟨_, rfl⟩
  have hs0 : St W0 r A n c k refs bs := by rw [hW0]; exact hs.keep0 (by repeat (first | with_reducible exact Fr.refl _ _ | with_reducible assumption | with_reducible refine Fr.drewN ?_ _ | with_reducible refine Fr.drew ?_ | with_reducible refine Fr.alloc ?_ _ | ((with_reducible refine Fr.setCell ?_ ?_ _) <;> first | (apply Or.inl; simp; done) | (apply Or.inr; simp; done) | (apply Or.inr; simp; omega) | skip) | (refine Fr.then0 ?_ (by with_reducible assumption)) | (refine Fr.trans ?_ (by with_reducible assumption))))
  have hf0 : Fr [r] w W0 := by rw [hW0]; exact (by repeat (first | with_reducible exact Fr.refl _ _ | with_reducible assumption | with_reducible refine Fr.drewN ?_ _ | with_reducible refine Fr.drew ?_ | with_reducible refine Fr.alloc ?_ _ | ((with_reducible refine Fr.setCell ?_ ?_ _) <;> first | (apply Or.inl; simp; done) | (apply Or.inr; simp; done) | (apply Or.inr; simp; omega) | skip) | (refine Fr.then0 ?_ (by with_reducible assumption)) | (refine Fr.trans ?_ (by with_reducible assumption))))
  have hB0 : Blk W0 w.heap.size 31 #[.int .i64 0, .int .i64 0, .string ⟨#[]⟩, .slice none 0 0, .slice none 0 0, .slice none 0 0] := by rw [hW0]; exact Blk.new _ _ _
  rw [← hW0]
  clear hW0
  obtain ⟨q, hq⟩ : ∃ q, q = w.heap.size := ⟨_, rfl⟩
  rw [← hq] at hB0 ⊢
  have HQ : Hid (w.heap.size ≤ q) := hide (by omega)
  clear hq
  have hAq : ∀ ad, A = some ad → 0 < n → ad.block ≠ q := fun ad h1 h2 => by
    have := (hs.blockA ad h1 h2).1
    have := HQ.out
    omega
  have HAQ := hide hAq
  clear hAq
  have nqr : q ≠ r := hB0.ne_ hs0.blk (by decide)
  have nqr' := Ne.symm nqr
  have hql := hB0.lt
  obtain ⟨ad, hA, hadr, hcb⟩ := hs0.rb.at2 HU.out
  subst hA
  obtain ⟨c0, c1, c2, cz⟩ := hs0.blk.c3
  go_quiet (fail)
  have hs1 : ∀ m, St (W0.drewN m) r (some ad) n c k refs bs := fun m => hs0.keep0 ((Fr.refl _ _).drewN m)
  cases RT with
  | error x =>
    go_wp2_with (go_at_call 121; refine (HT.out _ (hs1 _)).mono ?_; rintro e w3 ⟨rfl, hf3⟩)
    exact ⟨rfl, rfl, (hf0.drewN _).trans hf3⟩
  | ok sj =>
    obtain ⟨s, j⟩ := sj
    have hsl := htl s j rfl
    clear htl
    go_wp2_with (go_at_call 121; refine (HT.out _ (hs1 _)).mono ?_; rintro e w3 ⟨rfl, hs3, hf3⟩; have hB3 := (hB0.drewN _).keep hf3 (by simpa using nqr); obtain ⟨d0, d1, d2, d3, d4, d5, dz⟩ := hB3.c6; have hlt3 := hB3.lt; have hne3 := Nat.ne_of_lt hlt3)
    refine bodyPost_ret (v := pobjV 5 0 s) (by simp [results, Tryz.results68, go_sem, d0, d1, d2, d3, d4, d5, hlt3, hne3]) rfl ?_
    refine objR_simple (by unfold maxLen; omega) ?_ ?_
    · exact St.obj hs3 nqr HAQ.out
    · exact obj_frame ((hf0.drewN _).trans hf3) (.inr HQ.out)
set_option maxRecDepth 100000 in
set_option maxHeartbeats 2000000 in
theorem object_hex (r n c k : Nat) (A : Option Addr) (refs : Bool) (bs : List UInt8) (deep : Int) (u : UInt8) (w : World) (hs : St w r A n c k refs bs) (hu : bs[k]? = some u) (h60 : u.toNat = 60) (v : UInt8) (hv : bs[k + 1]? = some v) (hv60 : ¬ v.toNat = 60) :
    Calls Tryz.prog 68 #[.pointer (some ⟨r, 0, none⟩), .int .i64 deep] w (ObjR w r A n c refs bs (match textP bs k with | .error e => .error e | .ok (s, j) => .ok (simpleO 5 0 s, j))) := by
  have hd47 : ((u.toNat : Int) == 47) = false := by simp; omega
  have hd91 : ((u.toNat : Int) == 91) = false := by simp; omega
  have hd40 : ((u.toNat : Int) == 40) = false := by simp; omega
  have hd60 : ((u.toNat : Int) == 60) = true := by simp; omega
  have HT := hide (fun W (h : St W r A n c k refs bs) => text_any r n c k A refs bs W h (.inr ⟨by rw [hu]; exact congrArg some (UInt8.toNat_inj.1 h60), by rw [hv]; intro h; injection h with h; exact hv60 (by rw [h]; rfl)⟩))
  have htl := fun s j1 (h : textP bs k = .ok (s, j1)) => textP_len h
  generalize textP bs k = RT at *
  have HV := hide hv
  clear hv h60
  have hlt : k < n := by have := (List.getElem?_eq_some_iff.1 hu).1; rw [hs.len] at this; exact this
  have hsm := hs.small
  have hi1 : (0 : Int) ≤ (k : Int) := by omega
  have hi2 : (k : Int) < (n : Int) := by omega
  have HU := hide hu
  clear hu
  go_enter Tryz.func68, Tryz.ntmps68
  go_wp2_with fail
  obtain ⟨W0, hW0⟩ : ∃ W0, W0 = w.alloc (.cells #[.int .i64 0, .int .i64 0, .string ⟨#[]⟩, .slice none 0 0, .slice none 0 0, .slice none 0 0] 31) := ⟨_, rfl⟩
  have hs0 : St W0 r A n c k refs bs := by rw [hW0]; exact hs.keep0 (by repeat (first | with_reducible exact Fr.refl _ _ | with_reducible assumption | with_reducible refine Fr.drewN ?_ _ | with_reducible refine Fr.drew ?_ | with_reducible refine Fr.alloc ?_ _ | ((with_reducible refine Fr.setCell ?_ ?_ _) <;> first | (apply Or.inl; simp; done) | (apply Or.inr; simp; done) | (apply Or.inr; simp; omega) | skip) | (refine Fr.then0 ?_ (by with_reducible assumption)) | (refine Fr.trans ?_ (by with_reducible assumption))))
  have hf0 : Fr [r] w W0 := by rw [hW0]; exact (by repeat (first | with_reducible exact Fr.refl _ _ | with_reducible assumption | with_reducible refine Fr.drewN ?_ _ | with_reducible refine Fr.drew ?_ | with_reducible refine Fr.alloc ?_ _ | ((with_reducible refine Fr.setCell ?_ ?_ _) <;> first | (apply Or.inl; simp; done) | (apply Or.inr; simp; done) | (apply Or.inr; simp; omega) | skip) | (refine Fr.then0 ?_ (by with_reducible assumption)) | (refine Fr.trans ?_ (by with_reducible assumption))))
  have hB0 : Blk W0 w.heap.size 31 #[.int .i64 0, .int .i64 0, .string ⟨#[]⟩, .slice none 0 0, .slice none 0 0, .slice none 0 0] := by rw [hW0]; exact Blk.new _ _ _
  rw [← hW0]
  clear hW0
  obtain ⟨q, hq⟩ : ∃ q, q = w.heap.size := ⟨_, rfl⟩
  rw [← hq] at hB0 ⊢
  have HQ : Hid (w.heap.size ≤ q) := hide (by omega)
  clear hq
  have hAq : ∀ ad, A = some ad → 0 < n → ad.block ≠ q := fun ad h1 h2 => by
    have := (hs.blockA ad h1 h2).1
    have := HQ.out
    omega
  have HAQ := hide hAq
  clear hAq
  have nqr : q ≠ r := hB0.ne_ hs0.blk (by decide)
  have nqr' := Ne.symm nqr
  have hql := hB0.lt
  obtain ⟨ad, hA, hadr, hcb⟩ := hs0.rb.at2 HU.out
  subst hA
  obtain ⟨c0, c1, c2, cz⟩ := hs0.blk.c3
  go_quiet (fail)
  have hs1 : ∀ m, St (W0.drewN m) r (some ad) n c k refs bs := fun m => hs0.keep0 ((Fr.refl _ _).drewN m)
  have hlt2 : k + 1 < n := by have := (List.getElem?_eq_some_iff.1 HV.out).1; rw [hs0.len] at this; exact this
  have hdn : decide ((n : Int) ≤ (k : Int) + 1) = false := by simp; omega
  have hj1 : (0 : Int) ≤ (k : Int) + 1 := by omega
  have hj2 : (k : Int) + 1 < (n : Int) := by omega
  have hj3 : ((k : Int) + 1).toNat = k + 1 := by omega
  obtain ⟨ad', hA', hadr', hcb'⟩ := hs0.rb.at2 HV.out
  obtain rfl : ad = ad' := by injection hA'
  have hcb2 : W0.cell? ⟨ad.block, ad.off + (k + 1), none⟩ = some (.int .u8 v.toNat) := by
    have := hcb'
    unfold Addr.add at this
    simpa using this
  clear hA' hcb'
  have hne60 : ((v.toNat : Int) != 60) = true := by simp; omega
  go_wp2
  have hw1 : IntKind.i64.wrap ((k : Int) + 1) = (k : Int) + 1 := IntWalk.i64_in _ (by omega)
  go_quiet (fail)
  go_wp2
  go_quiet (fail)
  clear hw1
  cases RT with
  | error x =>
    go_wp2_with (go_at_call 121; refine (HT.out _ (hs1 _)).mono ?_; rintro e w3 ⟨rfl, hf3⟩)
    exact ⟨rfl, rfl, (hf0.drewN _).trans hf3⟩
  | ok sj =>
    obtain ⟨s, j⟩ := sj
    have hsl := htl s j rfl
    clear htl
    go_wp2_with (go_at_call 121; refine (HT.out _ (hs1 _)).mono ?_; rintro e w3 ⟨rfl, hs3, hf3⟩; have hB3 := (hB0.drewN _).keep hf3 (by simpa using nqr); obtain ⟨d0, d1, d2, d3, d4, d5, dz⟩ := hB3.c6; have hlt3 := hB3.lt; have hne3 := Nat.ne_of_lt hlt3)
    refine bodyPost_ret (v := pobjV 5 0 s) (by simp [results, Tryz.results68, go_sem, d0, d1, d2, d3, d4, d5, hlt3, hne3]) rfl ?_
    refine objR_simple (by unfold maxLen; omega) ?_ ?_
    · exact St.obj hs3 nqr HAQ.out
    · exact obj_frame ((hf0.drewN _).trans hf3) (.inr HQ.out)
theorem object_all : ∀ f, ObjOK f := by
  intro f
  induction f using Nat.strongRecOn with
  | _ f ih =>
    intro r n c k A refs bs deep w hs hk hdp h99
    match f, ih, h99 with
    | 0, _, h99 => exact absurd (by rw [objP]) h99
    | f + 1, ih, h99 =>
      have ih' : ∀ g, g < f → ObjOK g := fun g hg => ih g (by omega)
      obtain ⟨u, hu⟩ : ∃ u, bs[k]? = some u := ⟨_, List.getElem?_eq_getElem (by rw [hs.len]; exact hk)⟩
      by_cases h47 : u.toNat = 47
      · have hE : objP (f + 1) bs refs deep k = match nameP bs (k + 1) with | .error e => .error e | .ok (s, j) => .ok (simpleO 4 0 s, j) := by
          rw [objP, hu]; simp only; rw [if_pos h47]; rfl
        rw [hE]
        exact object_name r n c k A refs bs deep u w hs hu h47
      by_cases h91 : u.toNat = 91
      · by_cases h1 : deep < 1
        · have hE : objP (f + 1) bs refs deep k = .error 25 := by rw [objP, hu]; simp only; rw [if_neg h47, if_pos h91, if_pos h1]
          rw [hE]
          exact object_deep1 r n c k A refs bs deep u w hs hu h91 h1
        · have hE : objP (f + 1) bs refs deep k = listP f bs refs (deep - 1) (k + 1) [] := by rw [objP, hu]; simp only; rw [if_neg h47, if_pos h91, if_neg h1]
          rw [hE] at h99 ⊢
          exact object_list f ih' r n c k A refs bs deep u w hs hu h91 hdp h1 h99
      by_cases h40 : u.toNat = 40
      · have hE : objP (f + 1) bs refs deep k = match textP bs k with | .error e => .error e | .ok (s, j) => .ok (simpleO 5 0 s, j) := by
          rw [objP, hu]; simp only; rw [if_neg h47, if_neg h91, if_pos h40]; rfl
        rw [hE]
        exact object_round r n c k A refs bs deep u w hs hu h40
      by_cases h60 : u.toNat = 60
      · cases hv : bs[k + 1]? with
        | none =>
          have hE : objP (f + 1) bs refs deep k = .error 24 := by rw [objP, hu]; simp only; rw [if_neg h47, if_neg h91, if_neg h40, if_pos h60, hv]
          rw [hE]
          exact object_short r n c k A refs bs deep u w hs hu h60 hv
        | some v =>
          by_cases hv60 : v.toNat = 60
          · by_cases h1 : deep < 1
            · have hE : objP (f + 1) bs refs deep k = .error 25 := by rw [objP, hu]; simp only; rw [if_neg h47, if_neg h91, if_neg h40, if_pos h60, hv]; simp only; rw [if_pos hv60, if_pos h1]
              rw [hE]
              exact object_deep2 r n c k A refs bs deep u w hs hu h60 v hv hv60 h1
            · have hE : objP (f + 1) bs refs deep k = pairsP f bs refs (deep - 1) (k + 2) [] [] := by rw [objP, hu]; simp only; rw [if_neg h47, if_neg h91, if_neg h40, if_pos h60, hv]; simp only; rw [if_pos hv60, if_neg h1]
              rw [hE] at h99 ⊢
              exact object_pairs f ih' r n c k A refs bs deep u w hs hu h60 v hv hv60 hdp h1 h99
          · have hE : objP (f + 1) bs refs deep k = match textP bs k with | .error e => .error e | .ok (s, j) => .ok (simpleO 5 0 s, j) := by
              rw [objP, hu]; simp only; rw [if_neg h47, if_neg h91, if_neg h40, if_pos h60, hv]; simp only; rw [if_neg hv60]; rfl
            rw [hE]
            exact object_hex r n c k A refs bs deep u w hs hu h60 v hv hv60
      exact object_wordR f r n c k A refs bs deep u w hs hu h47 h91 h40 h60 h99
end Go.Proofs.YtdjhjfpeckndkaaGreatDoor
