/- Contracts: the printer's words, numbers, small numbers. -/
/- Contracts: the printer's colours. -/
/- Contracts: the printer's bytes. -/
import Derived.Test.YtndfdekcdhlgoaaDoorScDcA
import Derived.Test.YtndfdekcdhlgoaaDoorShelf
import Derived.Laws.BitsLemmas
import Derived.Deep.RegionHeld3
set_option linter.unusedVariables false
set_option linter.unusedSimpArgs false
namespace Go.Proofs.YtndfdekcdhlgoaaDoor
open Go.RowKit
/-- The printer in block b. -/
abbrev prT : TypeId := 52
set_option maxRecDepth 100000 in
theorem word_pr {w : World} {base b : Nat} {bs : List UInt8} (h : Bu w base prT b bs) (s : List UInt8) (hlen : bs.length + s.length ≤ 1000000000) :
    Calls Tryd.prog 27 #[.pointer (some ⟨b, 0, none⟩), .string ⟨s.toArray⟩] w fun e w' => e = .returned (.tuple #[]) ∧ Grew w base prT b (bs ++ 32 :: s) w' := by
  have HE := hide (cat_str [32] s)
  have HW : Hid (∀ W, Bu W base prT b bs → Calls Tryd.prog 12 #[.pointer (some ⟨b, 0, none⟩), .string ((⟨#[32]⟩ : ByteArray) ++ ⟨s.toArray⟩)] W fun e w' => e = .returned (.tuple #[.int .i64 (32 :: s).length, .nilIface]) ∧ Grew W base prT b (bs ++ 32 :: s) w') := hide (fun W h => by
    rw [show (⟨#[32]⟩ : ByteArray) ++ ⟨s.toArray⟩ = ⟨(32 :: s).toArray⟩ from HE.out]
    exact wstr_any h lies_printer (by decide) (32 :: s) (by simp only [List.length_cons]; omega))
  have hc : ¬9223372036854775807 < 1 + s.length := by omega
  have HB := hide h
  clear h
  go_enter Tryd.func27, Tryd.ntmps27
  go_wp2_with (go_at_call 12; refine (HW.out _ HB.out).mono ?_; rintro e w2 ⟨rfl, hg2⟩)
  go_end0
  exact ⟨rfl, hg2⟩
/-- A row of numbers that the printer does not touch. -/
def KR (w : World) (base b : Nat) (A : Option Addr) (n : Nat) (l : List Int) : Prop := l.length = n ∧ ∀ W, FrB base b w W → Rd W (fun _ => True) 1 A n (l.map (Value.int .i64))
theorem KR.go {w w' : World} {base b n : Nat} {A : Option Addr} {l : List Int} (h : KR w base b A n l) (hf : FrB base b w w') : KR w' base b A n l := ⟨h.1, fun W hW => h.2 W (hf.trans hW)⟩
theorem KR.blk {w : World} {base b g o : Nat} {t : TypeId} {cs : Array Value} (hg : Blk w g t cs) (h1 : g ≠ b) (h2 : t ≠ 5) (l : List Int) (h : ∀ j n, l[j]? = some n → cs[o + j]? = some (.int .i64 n)) : KR w base b (some ⟨g, o, none⟩) l.length l :=
  ⟨rfl, fun W hW => ⟨by simp, fun _ => ⟨_, rfl, trivial, fun j u hu => by
    have hb := hW.blk hg h1 h2
    rw [List.getElem?_map] at hu
    cases hh : l[j]? with
    | none => rw [hh] at hu; cases hu
    | some z =>
      rw [hh] at hu
      injection hu with hu
      subst hu
      have h3 := h j z hh
      have e : (⟨g, o, none⟩ : Addr).add j = ⟨g, o + j, none⟩ := by
        unfold Addr.add
        by_cases h0 : j = 0
        · subst h0; simp
        · simp [h0]
      rw [e, hb.cell]; exact h3⟩⟩⟩
theorem KR.at_ {w W : World} {base b n k : Nat} {A : Option Addr} {l : List Int} (h : KR w base b A n l) (hW : FrB base b w W) (hk : k < n) : ∃ ad z, A = some ad ∧ l[k]? = some z ∧ W.cell? (ad.add k) = some (.int .i64 z) := by
  obtain ⟨ad, u, hA, _, hu, hc⟩ := (h.2 W hW).at_ hk
  rw [List.getElem?_map] at hu
  cases hh : l[k]? with
  | none => rw [hh] at hu; cases hu
  | some z => rw [hh] at hu; injection hu with hu; exact ⟨ad, z, hA, rfl, by rw [hc, ← hu]⟩
theorem numsT_snoc {l : List Int} {k : Nat} {d : Int} (h : l[k]? = some d) : numsT (l.take (k + 1)) = numsT (l.take k) ++ numT d := by
  rw [take_snoc h]; simp [numsT]
theorem numsT_take (l : List Int) (k : Nat) : (numsT (l.take k)).length ≤ 24 * k := by
  have h : ∀ l : List Int, (numsT l).length ≤ 24 * l.length := fun l => by
    induction l with
    | nil => simp [numsT]
    | cons a l ih => have := numT_len a; simp only [numsT, List.flatMap_cons, List.length_append, List.length_cons] at ih ⊢; omega
  have := h (l.take k)
  have h2 := List.length_take_le k l
  omega
set_option maxRecDepth 100000 in
set_option maxHeartbeats 2000000 in
theorem numbers_pr {w : World} {base b : Nat} {bs : List UInt8} (h : Bu w base prT b bs) {A : Option Addr} {n c : Nat} {l : List Int} (hl : KR w base b A n l) (hfx : ∀ z, z ∈ l → fitsI z = true) (hn : n ≤ 1000000) (hlen : bs.length ≤ 500000000) :
    Calls Tryd.prog 13 #[.pointer (some ⟨b, 0, none⟩), .slice A n c] w fun e w' => e = .returned (.tuple #[]) ∧ Grew w base prT b (bs ++ numsT l) w' := by
  have HEL := hide (fun W hW k hk => hl.at_ (W := W) (k := k) hW hk)
  have HFX := hide hfx
  have HLN := hide hl.1
  have HB := hide h
  clear hl hfx h
  go_enter Tryd.func13, Tryd.ntmps13
  go_wp2
  go_loopw [8] (fun i w2 => ∃ k : Nat, k ≤ n ∧ i = .int .i64 k ∧ Grew w base prT b (bs ++ numsT (l.take k)) w2) (fun i _ => n - (intOf i).toNat)
  case atStart => exact ⟨0, Nat.zero_le _, rfl, by simpa [numsT] using Grew.refl HB.out⟩
  case round =>
    obtain ⟨k, hk, rfl, hgr⟩ := hrel
    by_cases hlt : k < n
    · have hdk : decide ((k : Int) < (n : Int)) = true := by simp; omega
      obtain ⟨ad, z, rfl, hz, hc⟩ := HEL.out wr hgr.2 k hlt
      have HDP := hide (fun W => decPrint_any z (HFX.out z (List.mem_of_getElem? hz)) W)
      have hpl := printT_len z
      have htk := numsT_take l k
      have HWD := hide (fun W (hW : Bu W base prT b (bs ++ numsT (l.take k))) => word_pr hW (printT z) (by rw [List.length_append]; omega))
      have HS := hide (show bs ++ numsT (l.take k) ++ 32 :: printT z = bs ++ numsT (l.take (k + 1)) by rw [numsT_snoc hz, List.append_assoc]; rfl)
      have HGR := hide hgr
      clear hz hgr hpl htk
      generalize printT z = pz at *
      go_wp2_with (first
        | (go_at_call 28; refine (HDP.out _).mono ?_; rintro e w2 ⟨rfl, hf2⟩)
        | (go_at_call 27; refine (HWD.out _ (HGR.out.1.keep hf2)).mono ?_; rintro e w3 ⟨rfl, hg3⟩))
      exact ⟨⟨k + 1, by omega, by go_num, by rw [← HS.out]; exact HGR.out.trans (Grew.after hf2 hg3)⟩, by simp [intOf]; omega⟩
    · have hdk : decide ((k : Int) < (n : Int)) = false := by simp; omega
      have HF : Hid (Grew w base prT b (bs ++ numsT l) wr) := hide (by rw [List.take_of_length_le (by rw [HLN.out]; omega)] at hgr; exact hgr)
      clear hgr
      go_wp2
      go_end0
      exact ⟨rfl, HF.out⟩
theorem decDigits_eq : ∀ n : Nat, Lib.decDigits n = digU n := by
  intro n
  induction n using Nat.strongRecOn with
  | _ n ih =>
    rw [Lib.decDigits, digU]
    by_cases h : n < 10
    · rw [dif_pos h, if_pos h]
    · rw [dif_neg h, if_neg h, ih (n / 10) (by omega)]
set_option maxRecDepth 100000 in
theorem small_pr {w : World} {base b : Nat} {bs : List UInt8} (h : Bu w base prT b bs) (z : Int) (h0 : 0 ≤ z) (h1 : z < 100) (hlen : bs.length ≤ 500000000) :
    Calls Tryd.prog 31 #[.pointer (some ⟨b, 0, none⟩), .int .i64 z] w fun e w' => e = .returned (.tuple #[]) ∧ Grew w base prT b (bs ++ smallT z) w' := by
  obtain ⟨n, rfl⟩ := Int.eq_ofNat_of_zero_le h0
  have hn : n < 100 := by omega
  have hdt : decT (n : Int) = digU n := by unfold decT; rw [if_neg (by omega)]; rfl
  have hl := decT_len2 n ⟨by omega, by omega⟩
  have HI : Hid (∀ W, Calls Tryd.prog 48 #[.int .i64 n] W fun e w' => e = .returned (.string ⟨(decT (n : Int)).toArray⟩) ∧ W = w') := hide (fun W => (Tryd.strconv_Itoa_small n hn W).mono fun e w' ⟨h1, h2⟩ => ⟨by rw [h1, decDigits_eq, hdt], h2.symm⟩)
  have HWD := hide (word_pr h (decT (n : Int)) (by omega))
  unfold smallT
  clear h h0 h1 hdt
  generalize decT (n : Int) = dn at *
  go_enter Tryd.func31, Tryd.ntmps31
  go_wp2_with (first
    | (go_at_call 48; refine (HI.out _).mono ?_; rintro e w2 ⟨rfl, rfl⟩)
    | (go_at_call 27; refine HWD.out.mono ?_; rintro e w3 ⟨rfl, hg3⟩))
  go_end0
  exact ⟨rfl, hg3⟩
end Go.Proofs.YtndfdekcdhlgoaaDoor
namespace Go.Proofs.YtndfdekcdhlgoaaDoor
open Go.RowKit
theorem numbersN_pr {w : World} {base b : Nat} {bs : List UInt8} (h : Bu w base prT b bs) (l : List Int) (hfx : ∀ z, z ∈ l → fitsI z = true) (hn : l.length ≤ 1000) (hlen : bs.length ≤ 500000000) :
    Calls Tryd.prog 13 #[.pointer (some ⟨b, 0, none⟩), .slice (some ⟨w.heap.size, 0, none⟩) l.length l.length] (w.alloc (.cells (l.map (Value.int .i64)).toArray 3)) fun e w' => e = .returned (.tuple #[]) ∧ Grew w base prT b (bs ++ numsT l) w' := by
  have hf : Fr [] w (w.alloc (.cells (l.map (Value.int .i64)).toArray 3)) := (Fr.refl _ _).alloc _
  refine (numbers_pr (c := l.length) (h.keep hf) (KR.blk (o := 0) (Blk.new w 3 _) (fun e => by have := h.lt; omega) (by decide) l (fun j n hj => by simp [hj])) hfx (by omega) hlen).mono fun e w' ⟨h1, h2⟩ => ⟨h1, Grew.after hf h2⟩
theorem fit_part {n : Int} (h : partB n = true) : fitsI n = true := by unfold partB at h; unfold fitsI; simp at h ⊢; omega
set_option maxRecDepth 100000 in
set_option maxHeartbeats 1000000 in
theorem color_pr1 {w : World} {base b : Nat} {bs : List UInt8} (h : Bu w base prT b bs) {p0 p1 p2 p3 : Int} (hc : colB ⟨1, p0, p1, p2, p3⟩ = true) (hlen : bs.length ≤ 400000000) :
    Calls Tryd.prog 30 #[.pointer (some ⟨b, 0, none⟩), .agg #[.int .i64 1, .int .i64 p0, .int .i64 p1, .int .i64 p2, .int .i64 p3]] w fun e w' => e = .returned (.tuple #[]) ∧ Grew w base prT b (bs ++ colT ⟨1, p0, p1, p2, p3⟩) w' := by
  have hp : partB p0 = true ∧ partB p1 = true ∧ partB p2 = true ∧ partB p3 = true := by unfold colB at hc; simp only [Bool.and_eq_true] at hc; exact ⟨hc.1.1.1.1.1.1.2, hc.1.1.1.1.1.2, hc.1.1.1.1.2, hc.1.1.1.2⟩
  have hf : Fr [] w (w.alloc (.cells #[.int .i64 1, .int .i64 p0, .int .i64 p1, .int .i64 p2, .int .i64 p3] 35)) := (Fr.refl _ _).alloc _
  have hB := Blk.new w 35 #[.int .i64 1, .int .i64 p0, .int .i64 p1, .int .i64 p2, .int .i64 p3]
  have hgb : w.heap.size ≠ b := fun e => by have := h.lt; omega
  have HSM := hide (small_pr (h.keep hf) 1 (by omega) (by omega) (by omega))
  have HNM := hide (fun W (hg : Grew (w.alloc (.cells #[.int .i64 1, .int .i64 p0, .int .i64 p1, .int .i64 p2, .int .i64 p3] 35)) base prT b (bs ++ smallT 1) W) => numbers_pr (c := 4) hg.1 (KR.blk (o := 1) (hg.2.blk hB hgb (by decide)) hgb (by decide) [p0] (fun j n hj => by
    have hj6 : j < 1 := (List.getElem?_eq_some_iff.1 hj).1
    rcases (by omega : j = 0) with rfl <;> (simp at hj; subst hj) <;> rfl)) (fun z hz => by
    simp only [List.mem_cons, List.not_mem_nil, or_false] at hz
    rcases hz with rfl
    all_goals first | exact fit_part hp.1 | exact fit_part hp.2.1 | exact fit_part hp.2.2.1 | exact fit_part hp.2.2.2) (by simp) (by have h1 := smallT_len 1 (by omega); rw [List.length_append]; omega))
  have HB := hide hB
  have HGB := hide hgb
  have HCT := hide (show bs ++ smallT 1 ++ numsT [p0] = bs ++ colT ⟨1, p0, p1, p2, p3⟩ by rw [List.append_assoc]; rfl)
  have HF := hide hf
  clear h hp hf hB hgb hc
  go_enter Tryd.func30, Tryd.ntmps30
  go_wp2_with (first
    | (go_at_call 31; refine HSM.out.mono ?_; rintro e w2 ⟨rfl, hg2⟩; have c0 : w2.cell? ⟨w.heap.size, 0, none⟩ = some (.int .i64 1) := (hg2.2.blk HB.out HGB.out (by decide)).cell 0)
    | (go_at_call 13; refine (HNM.out _ hg2).mono ?_; rintro e w3 ⟨rfl, hg3⟩))
  go_end0
  exact ⟨rfl, by rw [← HCT.out]; exact Grew.after HF.out (hg2.trans hg3)⟩
set_option maxRecDepth 100000 in
set_option maxHeartbeats 1000000 in
theorem color_pr3 {w : World} {base b : Nat} {bs : List UInt8} (h : Bu w base prT b bs) {p0 p1 p2 p3 : Int} (hc : colB ⟨3, p0, p1, p2, p3⟩ = true) (hlen : bs.length ≤ 400000000) :
    Calls Tryd.prog 30 #[.pointer (some ⟨b, 0, none⟩), .agg #[.int .i64 3, .int .i64 p0, .int .i64 p1, .int .i64 p2, .int .i64 p3]] w fun e w' => e = .returned (.tuple #[]) ∧ Grew w base prT b (bs ++ colT ⟨3, p0, p1, p2, p3⟩) w' := by
  have hp : partB p0 = true ∧ partB p1 = true ∧ partB p2 = true ∧ partB p3 = true := by unfold colB at hc; simp only [Bool.and_eq_true] at hc; exact ⟨hc.1.1.1.1.1.1.2, hc.1.1.1.1.1.2, hc.1.1.1.1.2, hc.1.1.1.2⟩
  have hf : Fr [] w (w.alloc (.cells #[.int .i64 3, .int .i64 p0, .int .i64 p1, .int .i64 p2, .int .i64 p3] 35)) := (Fr.refl _ _).alloc _
  have hB := Blk.new w 35 #[.int .i64 3, .int .i64 p0, .int .i64 p1, .int .i64 p2, .int .i64 p3]
  have hgb : w.heap.size ≠ b := fun e => by have := h.lt; omega
  have HSM := hide (small_pr (h.keep hf) 3 (by omega) (by omega) (by omega))
  have HNM := hide (fun W (hg : Grew (w.alloc (.cells #[.int .i64 3, .int .i64 p0, .int .i64 p1, .int .i64 p2, .int .i64 p3] 35)) base prT b (bs ++ smallT 3) W) => numbers_pr (c := 4) hg.1 (KR.blk (o := 1) (hg.2.blk hB hgb (by decide)) hgb (by decide) [p0, p1, p2] (fun j n hj => by
    have hj6 : j < 3 := (List.getElem?_eq_some_iff.1 hj).1
    rcases (by omega : j = 0 ∨ j = 1 ∨ j = 2) with rfl | rfl | rfl <;> (simp at hj; subst hj) <;> rfl)) (fun z hz => by
    simp only [List.mem_cons, List.not_mem_nil, or_false] at hz
    rcases hz with rfl | rfl | rfl
    all_goals first | exact fit_part hp.1 | exact fit_part hp.2.1 | exact fit_part hp.2.2.1 | exact fit_part hp.2.2.2) (by simp) (by have h1 := smallT_len 3 (by omega); rw [List.length_append]; omega))
  have HB := hide hB
  have HGB := hide hgb
  have HCT := hide (show bs ++ smallT 3 ++ numsT [p0, p1, p2] = bs ++ colT ⟨3, p0, p1, p2, p3⟩ by rw [List.append_assoc]; rfl)
  have HF := hide hf
  clear h hp hf hB hgb hc
  go_enter Tryd.func30, Tryd.ntmps30
  go_wp2_with (first
    | (go_at_call 31; refine HSM.out.mono ?_; rintro e w2 ⟨rfl, hg2⟩; have c0 : w2.cell? ⟨w.heap.size, 0, none⟩ = some (.int .i64 3) := (hg2.2.blk HB.out HGB.out (by decide)).cell 0)
    | (go_at_call 13; refine (HNM.out _ hg2).mono ?_; rintro e w3 ⟨rfl, hg3⟩))
  go_end0
  exact ⟨rfl, by rw [← HCT.out]; exact Grew.after HF.out (hg2.trans hg3)⟩
set_option maxRecDepth 100000 in
set_option maxHeartbeats 1000000 in
theorem color_pr4 {w : World} {base b : Nat} {bs : List UInt8} (h : Bu w base prT b bs) {p0 p1 p2 p3 : Int} (hc : colB ⟨4, p0, p1, p2, p3⟩ = true) (hlen : bs.length ≤ 400000000) :
    Calls Tryd.prog 30 #[.pointer (some ⟨b, 0, none⟩), .agg #[.int .i64 4, .int .i64 p0, .int .i64 p1, .int .i64 p2, .int .i64 p3]] w fun e w' => e = .returned (.tuple #[]) ∧ Grew w base prT b (bs ++ colT ⟨4, p0, p1, p2, p3⟩) w' := by
  have hp : partB p0 = true ∧ partB p1 = true ∧ partB p2 = true ∧ partB p3 = true := by unfold colB at hc; simp only [Bool.and_eq_true] at hc; exact ⟨hc.1.1.1.1.1.1.2, hc.1.1.1.1.1.2, hc.1.1.1.1.2, hc.1.1.1.2⟩
  have hf : Fr [] w (w.alloc (.cells #[.int .i64 4, .int .i64 p0, .int .i64 p1, .int .i64 p2, .int .i64 p3] 35)) := (Fr.refl _ _).alloc _
  have hB := Blk.new w 35 #[.int .i64 4, .int .i64 p0, .int .i64 p1, .int .i64 p2, .int .i64 p3]
  have hgb : w.heap.size ≠ b := fun e => by have := h.lt; omega
  have HSM := hide (small_pr (h.keep hf) 4 (by omega) (by omega) (by omega))
  have HNM := hide (fun W (hg : Grew (w.alloc (.cells #[.int .i64 4, .int .i64 p0, .int .i64 p1, .int .i64 p2, .int .i64 p3] 35)) base prT b (bs ++ smallT 4) W) => numbers_pr (c := 4) hg.1 (KR.blk (o := 1) (hg.2.blk hB hgb (by decide)) hgb (by decide) [p0, p1, p2, p3] (fun j n hj => by
    have hj6 : j < 4 := (List.getElem?_eq_some_iff.1 hj).1
    rcases (by omega : j = 0 ∨ j = 1 ∨ j = 2 ∨ j = 3) with rfl | rfl | rfl | rfl <;> (simp at hj; subst hj) <;> rfl)) (fun z hz => by
    simp only [List.mem_cons, List.not_mem_nil, or_false] at hz
    rcases hz with rfl | rfl | rfl | rfl
    all_goals first | exact fit_part hp.1 | exact fit_part hp.2.1 | exact fit_part hp.2.2.1 | exact fit_part hp.2.2.2) (by simp) (by have h1 := smallT_len 4 (by omega); rw [List.length_append]; omega))
  have HB := hide hB
  have HGB := hide hgb
  have HCT := hide (show bs ++ smallT 4 ++ numsT [p0, p1, p2, p3] = bs ++ colT ⟨4, p0, p1, p2, p3⟩ by rw [List.append_assoc]; rfl)
  have HF := hide hf
  clear h hp hf hB hgb hc
  go_enter Tryd.func30, Tryd.ntmps30
  go_wp2_with (first
    | (go_at_call 31; refine HSM.out.mono ?_; rintro e w2 ⟨rfl, hg2⟩; have c0 : w2.cell? ⟨w.heap.size, 0, none⟩ = some (.int .i64 4) := (hg2.2.blk HB.out HGB.out (by decide)).cell 0)
    | (go_at_call 13; refine (HNM.out _ hg2).mono ?_; rintro e w3 ⟨rfl, hg3⟩))
  go_end0
  exact ⟨rfl, by rw [← HCT.out]; exact Grew.after HF.out (hg2.trans hg3)⟩
theorem color_pr {w : World} {base b : Nat} {bs : List UInt8} (h : Bu w base prT b bs) {sp p0 p1 p2 p3 : Int} (hc : colB ⟨sp, p0, p1, p2, p3⟩ = true) (hlen : bs.length ≤ 400000000) :
    Calls Tryd.prog 30 #[.pointer (some ⟨b, 0, none⟩), .agg #[.int .i64 sp, .int .i64 p0, .int .i64 p1, .int .i64 p2, .int .i64 p3]] w fun e w' => e = .returned (.tuple #[]) ∧ Grew w base prT b (bs ++ colT ⟨sp, p0, p1, p2, p3⟩) w' := by
  have hsp : sp = 1 ∨ sp = 3 ∨ sp = 4 := by have h1 := hc; unfold colB at h1; simp only [Bool.and_eq_true, decide_eq_true_eq] at h1; omega
  rcases hsp with rfl | rfl | rfl
  · exact color_pr1 h hc hlen
  · exact color_pr3 h hc hlen
  · exact color_pr4 h hc hlen
end Go.Proofs.YtndfdekcdhlgoaaDoor
namespace Go.Proofs.YtndfdekcdhlgoaaDoor
open Go.RowKit
theorem hex_idx (n : Nat) (hn : n < 16) (w : World) : (Instr.index 9 (.string ⟨#[48, 49, 50, 51, 52, 53, 54, 55, 56, 57, 97, 98, 99, 100, 101, 102]⟩) (.int .u8 (n : Int))).run Tryd.prog w = .ok (.int .u8 (hexC n).toNat) w := by
  rcases (by omega : n = 0 ∨ n = 1 ∨ n = 2 ∨ n = 3 ∨ n = 4 ∨ n = 5 ∨ n = 6 ∨ n = 7 ∨ n = 8 ∨ n = 9 ∨ n = 10 ∨ n = 11 ∨ n = 12 ∨ n = 13 ∨ n = 14 ∨ n = 15) with rfl | rfl | rfl | rfl | rfl | rfl | rfl | rfl | rfl | rfl | rfl | rfl | rfl | rfl | rfl | rfl <;> kernel_rfl
theorem byteT_snoc {l : List UInt8} {k : Nat} {x : UInt8} (h : l[k]? = some x) : (l.take (k + 1)).flatMap byteT = (l.take k).flatMap byteT ++ byteT x := by
  rw [take_snoc h]; simp
theorem byteT_len (l : List UInt8) : (l.flatMap byteT).length = 2 * l.length := by
  induction l with
  | nil => rfl
  | cons a l ih => simp only [List.flatMap_cons, List.length_append, ih, byteT, List.length_cons, List.length_nil]; omega
set_option maxRecDepth 100000 in
set_option maxHeartbeats 2000000 in
theorem bytes_pr {w : World} {base b : Nat} {bs : List UInt8} (h : Bu w base prT b bs) {A : Option Addr} {n c : Nat} {l : List UInt8} (hr : RB w (fun g => g < base) A n l) (hn : n ≤ 1000000) (hlen : bs.length ≤ 400000000) :
    Calls Tryd.prog 32 #[.pointer (some ⟨b, 0, none⟩), .slice A n c] w fun e w' => e = .returned (.tuple #[]) ∧ Grew w base prT b (bs ++ bytesT l) w' := by
  have HEL := hide (fun W (hW : FrB base b w W) => (by
    obtain ⟨S, hf, hS⟩ := hW.fr
    exact hr.keep hf (fun g hg hm => by have := (hS g hm).1; omega) : RB W (fun g => g < base) A n l))
  have HLN := hide hr.len
  have HWD := hide (word_pr h [120] (by simp; omega))
  clear h hr
  go_enter Tryd.func32, Tryd.ntmps32
  go_wp2_with (go_at_call 27; refine HWD.out.mono ?_; rintro e w2 ⟨rfl, hg2⟩)
  go_loopw [10] (fun i w3 => ∃ k : Nat, k ≤ n ∧ i = .int .i64 k ∧ Grew w base prT b (bs ++ ([32, 120] ++ (l.take k).flatMap byteT)) w3) (fun i _ => n - (intOf i).toNat)
  case atStart => exact ⟨0, Nat.zero_le _, rfl, by simpa using hg2⟩
  case round =>
    obtain ⟨k, hk, rfl, hgr⟩ := hrel
    by_cases hlt : k < n
    · have hdk : decide ((k : Int) < (n : Int)) = true := by simp; omega
      obtain ⟨ad, ch, rfl, hch, hcell⟩ := (HEL.out wr hgr.2).at_ hlt
      have hl := ch.toNat_lt
      have h1 := hex_idx (ch.toNat / 16) (by omega)
      have h2 := hex_idx (ch.toNat % 16) (by omega)
      have e1 : ((ch.toNat / 16 : Nat) : Int) = (ch.toNat : Int) / 16 := by omega
      have e2 : ((ch.toNat % 16 : Nat) : Int) = (ch.toNat : Int) % 16 := by omega
      rw [e1] at h1
      rw [e2] at h2
      have hand := u8_and15 (ch.toNat : Int) (by omega) (by omega)
      have HSN := hide (byteT_snoc hch)
      have hbl := byteT_len (l.take k)
      have htk := List.length_take_le k l
      have HT : Hid (bs ++ ([32, 120] ++ (l.take k).flatMap byteT) ++ [hexC (ch.toNat / 16)] ++ [hexC (ch.toNat % 16)] = bs ++ ([32, 120] ++ (l.take (k + 1)).flatMap byteT)) := hide (by rw [HSN.out]; simp [byteT])
      obtain ⟨x1, hx1⟩ : ∃ x, x = hexC (ch.toNat / 16) := ⟨_, rfl⟩
      obtain ⟨x2, hx2⟩ : ∃ x, x = hexC (ch.toNat % 16) := ⟨_, rfl⟩
      rw [← hx1] at h1 HT
      rw [← hx2] at h2 HT
      have hbl2 : (bs ++ ([32, 120] ++ (l.take k).flatMap byteT)).length ≤ 500000000 := by simp only [List.length_append, List.length_cons, List.length_nil]; omega
      have HW1 := hide (fun W (hW : Bu W base prT b (bs ++ ([32, 120] ++ (l.take k).flatMap byteT))) => wbyte_any hW lies_printer (by decide) (x1.toNat : Int) x1 rfl (by omega))
      have HW2 := hide (fun W (hW : Bu W base prT b (bs ++ ([32, 120] ++ (l.take k).flatMap byteT) ++ [x1])) => wbyte_any hW lies_printer (by decide) (x2.toNat : Int) x2 rfl (by rw [List.length_append]; simp only [List.length_cons, List.length_nil]; omega))
      have HGR := hide hgr
      clear hx1 hx2 hgr hch hbl htk hbl2 e1 e2
      obtain ⟨wo, rfl⟩ : ∃ wo : World, wo = wr := ⟨_, rfl⟩
      go_wp2
      go_region_held3 (fun _ => True) ((exact trivial)) ((go_simp; go_at_call 14; refine (HW1.out _ (HGR.out.1.keep (by repeat (first | with_reducible exact Fr.refl _ _ | with_reducible assumption | with_reducible refine Fr.drewN ?_ _ | with_reducible refine Fr.drew ?_ | with_reducible refine Fr.alloc ?_ _ | ((with_reducible refine Fr.setCell ?_ ?_ _) <;> first | (apply Or.inl; simp; done) | (apply Or.inr; simp; done) | (apply Or.inr; simp; omega) | skip) | (refine Fr.then0 ?_ (by with_reducible assumption)) | (refine Fr.trans ?_ (by with_reducible assumption)))))).mono ?_; rintro e w4 ⟨rfl, hg4⟩))
      go_wp2
      go_region_held3 (fun _ => True) ((exact trivial)) ((go_simp; go_at_call 14; refine (HW2.out _ (hg4.1.keep (by repeat (first | with_reducible exact Fr.refl _ _ | with_reducible assumption | with_reducible refine Fr.drewN ?_ _ | with_reducible refine Fr.drew ?_ | with_reducible refine Fr.alloc ?_ _ | ((with_reducible refine Fr.setCell ?_ ?_ _) <;> first | (apply Or.inl; simp; done) | (apply Or.inr; simp; done) | (apply Or.inr; simp; omega) | skip) | (refine Fr.then0 ?_ (by with_reducible assumption)) | (refine Fr.trans ?_ (by with_reducible assumption)))))).mono ?_; rintro e w5 ⟨rfl, hg5⟩))
      go_wp2
      exact ⟨⟨k + 1, by omega, by go_num, by rw [← HT.out]; exact HGR.out.trans ((Grew.after (by repeat (first | with_reducible exact Fr.refl _ _ | with_reducible assumption | with_reducible refine Fr.drewN ?_ _ | with_reducible refine Fr.drew ?_ | with_reducible refine Fr.alloc ?_ _ | ((with_reducible refine Fr.setCell ?_ ?_ _) <;> first | (apply Or.inl; simp; done) | (apply Or.inr; simp; done) | (apply Or.inr; simp; omega) | skip) | (refine Fr.then0 ?_ (by with_reducible assumption)) | (refine Fr.trans ?_ (by with_reducible assumption)))) hg4).trans (Grew.after (by repeat (first | with_reducible exact Fr.refl _ _ | with_reducible assumption | with_reducible refine Fr.drewN ?_ _ | with_reducible refine Fr.drew ?_ | with_reducible refine Fr.alloc ?_ _ | ((with_reducible refine Fr.setCell ?_ ?_ _) <;> first | (apply Or.inl; simp; done) | (apply Or.inr; simp; done) | (apply Or.inr; simp; omega) | skip) | (refine Fr.then0 ?_ (by with_reducible assumption)) | (refine Fr.trans ?_ (by with_reducible assumption)))) hg5))⟩, by simp [intOf]; omega⟩
    · have hdk : decide ((k : Int) < (n : Int)) = false := by simp; omega
      have HF : Hid (Grew w base prT b (bs ++ bytesT l) wr) := hide (by rw [List.take_of_length_le (by rw [HLN.out]; omega)] at hgr; exact hgr)
      clear hgr
      go_wp2
      go_end0
      exact ⟨rfl, HF.out⟩
end Go.Proofs.YtndfdekcdhlgoaaDoor
