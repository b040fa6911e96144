/- Contracts: the lexer's strings in round brackets. -/
import Derived.Test.YtdjhjfpeckndkaaGreatDoorBkScanE
set_option linter.unusedVariables false
set_option linter.unusedSimpArgs false
namespace Go.Proofs.YtdjhjfpeckndkaaGreatDoor
open Go.RowKit
theorem escape_any (r n c k : Nat) (A : Option Addr) (bs : List UInt8) (base : Nat) (v : Value) (out : List UInt8) (d : UInt8) (w : World) (hs : Ss w r A n c k bs) (hown : w.ownsRow base 5 1 v out.length (u8s out))
    (hAB : ∀ ad, A = some ad → 0 < n → ad.block < base) (hbase : base ≤ w.heap.size) (hlen : out.length ≤ 1073741824) :
    Calls Tryz.prog 279 #[.pointer (some ⟨r, 0, none⟩), v, .int .u8 d.toNat] w (EscQ w r A n c (escP bs k d).2 bs base v (out ++ (escP bs k d).1)) := by
  have hof : ∀ x : Nat, d.toNat = x → x < 256 → d = UInt8.ofNat x := fun x h _ => by rw [← h, UInt8.ofNat_toNat]
  by_cases h1 : d.toNat = 110
  · rw [show escP bs k d = ([10], k) by unfold escP; rw [if_pos h1], h1]; exact escape_110 r n c k A bs base v out w hs hown hAB hbase hlen
  by_cases h2 : d.toNat = 114
  · rw [show escP bs k d = ([13], k) by unfold escP; rw [if_neg h1, if_pos h2], h2]; exact escape_114 r n c k A bs base v out w hs hown hAB hbase hlen
  by_cases h3 : d.toNat = 116
  · rw [show escP bs k d = ([9], k) by unfold escP; rw [if_neg h1, if_neg h2, if_pos h3], h3]; exact escape_116 r n c k A bs base v out w hs hown hAB hbase hlen
  by_cases h4 : d.toNat = 98
  · rw [show escP bs k d = ([8], k) by unfold escP; rw [if_neg h1, if_neg h2, if_neg h3, if_pos h4], h4]; exact escape_98 r n c k A bs base v out w hs hown hAB hbase hlen
  by_cases h5 : d.toNat = 102
  · rw [show escP bs k d = ([12], k) by unfold escP; rw [if_neg h1, if_neg h2, if_neg h3, if_neg h4, if_pos h5], h5]; exact escape_102 r n c k A bs base v out w hs hown hAB hbase hlen
  by_cases h6 : d.toNat = 10
  · rw [show escP bs k d = ([], k) by unfold escP; rw [if_neg h1, if_neg h2, if_neg h3, if_neg h4, if_neg h5, if_pos h6], h6, List.append_nil]; exact escape_10 r n c k A bs base v out w hs hown hAB hbase hlen
  by_cases h7 : d.toNat = 13
  · rw [show escP bs k d = ([], if bs[k]? = some 10 then k + 1 else k) by unfold escP; rw [if_neg h1, if_neg h2, if_neg h3, if_neg h4, if_neg h5, if_neg h6, if_pos h7], h7, List.append_nil]
    by_cases h10 : bs[k]? = some 10
    · rw [if_pos h10]; exact escape_13y r n c k A bs base v out w hs hown hAB hbase hlen h10
    · rw [if_neg h10]; exact escape_13n r n c k A bs base v out w hs hown hAB hbase hlen h10
  cases ho : octB d
  · rw [show escP bs k d = ([d], k) by unfold escP; rw [if_neg h1, if_neg h2, if_neg h3, if_neg h4, if_neg h5, if_neg h6, if_neg h7, if_pos ho]]
    exact escape_other r n c k A bs base v out d w hs hown hAB hbase hlen ⟨h1, h2, h3, h4, h5, h6, h7⟩ ho
  · have e : escP bs k d = if isOct bs k = false then ([UInt8.ofNat (d.toNat - 48)], k) else if isOct bs (k + 1) = false then ([UInt8.ofNat (8 * (d.toNat - 48) + octV bs k)], k + 1) else ([UInt8.ofNat (8 * (8 * (d.toNat - 48) + octV bs k) + octV bs (k + 1))], k + 2) := by
      unfold escP; rw [if_neg h1, if_neg h2, if_neg h3, if_neg h4, if_neg h5, if_neg h6, if_neg h7, if_neg (by rw [ho]; simp)]
    rw [e]
    cases g1 : isOct bs k
    · rw [if_pos rfl]
      exact escape_oct r n c k A bs base v out d w hs hown hAB hbase hlen ho 0 (by omega) (fun j hj => by omega) (fun _ => g1)
    · rw [if_neg (by simp)]
      cases g2 : isOct bs (k + 1)
      · rw [if_pos rfl]
        exact escape_oct r n c k A bs base v out d w hs hown hAB hbase hlen ho 1 (by omega) (fun j hj => by obtain rfl : j = 0 := by omega
                                                                                                            exact g1) (fun _ => g2)
      · rw [if_neg (by simp)]
        exact escape_oct r n c k A bs base v out d w hs hown hAB hbase hlen ho 2 (by omega) (fun j hj => by rcases (by omega : j = 0 ∨ j = 1) with rfl | rfl; exact g1; exact g2) (fun h => by omega)

/-! One step of a string in round brackets. -/
section
variable {bs : List UInt8} {q dp : Nat} {acc : List UInt8} {c : UInt8}
theorem round_end (h : bs[q]? = none) : roundP bs q dp acc = none := by
  rw [roundP, dif_neg (by have := List.getElem?_eq_none_iff.1 h; omega)]
theorem round_open (h : bs[q]? = some c) (h1 : c.toNat = 40) : roundP bs q dp acc = roundP bs (q + 1) (dp + 1) (acc ++ [c]) := by
  obtain ⟨hq, he⟩ := List.getElem?_eq_some_iff.1 h
  rw [roundP, dif_pos hq]
  simp only [he, h1, if_true]
theorem round_done (h : bs[q]? = some c) (h1 : c.toNat = 41) : roundP bs q 1 acc = some (acc, q + 1) := by
  obtain ⟨hq, he⟩ := List.getElem?_eq_some_iff.1 h
  rw [roundP, dif_pos hq]
  simp [he, h1]
theorem round_close (h : bs[q]? = some c) (h1 : c.toNat = 41) (h2 : dp ≠ 1) : roundP bs q dp acc = roundP bs (q + 1) (dp - 1) (acc ++ [c]) := by
  obtain ⟨hq, he⟩ := List.getElem?_eq_some_iff.1 h
  rw [roundP, dif_pos hq]
  simp [he, h1, h2]
theorem round_esc {d : UInt8} (h : bs[q]? = some c) (h1 : c.toNat = 92) (h2 : bs[q + 1]? = some d) : roundP bs q dp acc = roundP bs (escP bs (q + 2) d).2 dp (acc ++ (escP bs (q + 2) d).1) := by
  obtain ⟨hq, he⟩ := List.getElem?_eq_some_iff.1 h
  obtain ⟨hq2, he2⟩ := List.getElem?_eq_some_iff.1 h2
  rw [roundP, dif_pos hq]
  simp [he, h1, hq2, he2]
theorem round_esc_end (h : bs[q]? = some c) (h1 : c.toNat = 92) (h2 : bs[q + 1]? = none) : roundP bs q dp acc = none := by
  obtain ⟨hq, he⟩ := List.getElem?_eq_some_iff.1 h
  have h3 := List.getElem?_eq_none_iff.1 h2
  rw [roundP, dif_pos hq]
  simp [he, h1]
  omega
theorem round_cr (h : bs[q]? = some c) (h1 : c.toNat = 13) : roundP bs q dp acc = roundP bs (if bs[q + 1]? = some 10 then q + 2 else q + 1) dp (acc ++ [10]) := by
  obtain ⟨hq, he⟩ := List.getElem?_eq_some_iff.1 h
  rw [roundP, dif_pos hq]
  simp [he, h1]
theorem round_plain (h : bs[q]? = some c) (h1 : ¬ c.toNat = 40) (h2 : ¬ c.toNat = 41) (h3 : ¬ c.toNat = 92) (h4 : ¬ c.toNat = 13) : roundP bs q dp acc = roundP bs (q + 1) dp (acc ++ [c]) := by
  obtain ⟨hq, he⟩ := List.getElem?_eq_some_iff.1 h
  rw [roundP, dif_pos hq]
  simp [he, h1, h2, h3, h4]
end

abbrev strTok (out : List UInt8) : Value := .agg #[.int .i64 6, .int .i64 0, .string ⟨out.toArray⟩]
set_option maxHeartbeats 400000 in
theorem text_ok (N : Nat → Prop) (A : Option Addr) (n c : Nat) (out : List UInt8) (w : World) (hr : RB w N A n out) (hn : n ≤ 65535) :
    Calls Tryz.prog 281 #[.slice A n c] w fun e w' => e = .returned (strTok out) ∧ Fr [] w w' := by
  have hd : decide ((65535 : Int) < (n : Int)) = false := by simp; omega
  have hr' := hr.keep0 ((Fr.refl [] w).alloc (.cells #[.int .i64 0, .int .i64 0, .string ⟨#[]⟩] 212))
  have hcv := conv_rb Tryz.underlying22 Tryz.underlying5 Tryz.underlying9 (c := c) hr'
  go_enter Tryz.func281, Tryz.ntmps281
  go_wp2
  refine bodyPost_ret (v := strTok out) (by simp [strTok, results, Tryz.results281, go_sem]) rfl ⟨rfl, (by repeat (first | with_reducible exact Fr.refl _ _ | with_reducible assumption | with_reducible refine Fr.drewN ?_ _ | with_reducible refine Fr.drew ?_ | with_reducible refine Fr.alloc ?_ _ | ((with_reducible refine Fr.setCell ?_ ?_ _) <;> first | (apply Or.inl; simp; done) | (apply Or.inr; simp; done) | (apply Or.inr; simp; omega) | skip) | (refine Fr.then0 ?_ (by with_reducible assumption)) | (refine Fr.trans ?_ (by with_reducible assumption))))⟩
set_option maxHeartbeats 400000 in
theorem text_big (A : Option Addr) (n c : Nat) (w : World) (hn : 65535 < n) (hs : n ≤ 4611686018427387904) :
    Calls Tryz.prog 281 #[.slice A n c] w fun e w' => e = panicE 9 ∧ Fr [] w w' := by
  have hd : decide ((65535 : Int) < (n : Int)) = true := by simp; omega
  go_enter Tryz.func281, Tryz.ntmps281
  go_wp2
  exact ⟨rfl, rfl, (by repeat (first | with_reducible exact Fr.refl _ _ | with_reducible assumption | with_reducible refine Fr.drewN ?_ _ | with_reducible refine Fr.drew ?_ | with_reducible refine Fr.alloc ?_ _ | ((with_reducible refine Fr.setCell ?_ ?_ _) <;> first | (apply Or.inl; simp; done) | (apply Or.inr; simp; done) | (apply Or.inr; simp; omega) | skip) | (refine Fr.then0 ?_ (by with_reducible assumption)) | (refine Fr.trans ?_ (by with_reducible assumption))))⟩
end Go.Proofs.YtdjhjfpeckndkaaGreatDoor
