/- An object's text is read as that object. No program. -/
/- Names, strings and words: their texts are read as they are. No program. -/
/- A sound object's text is read as the object; if it is nested too deep, it is refused. No program. -/
/- A sound object's text is read as the object; if it is nested too deep, it is refused. No program. -/
/- How long an object's text is. No program. -/
/- The plain law of PlexBack. No program. -/
import Derived.Test.YtdjhjfpeckndkaaGreatDoorBkPlain
set_option linter.unusedVariables false
set_option linter.unusedSimpArgs false
namespace Go.Proofs.YtdjhjfpeckndkaaGreatDoor

/-! The text. -/
def nameC (c : UInt8) : List UInt8 := if c.toNat < 33 ∨ 126 < c.toNat ∨ c.toNat = 35 ∨ delimB c = true then [35, hexC (c.toNat / 16), hexC (c.toNat % 16)] else [c]
def nameT (s : List UInt8) : List UInt8 := 47 :: s.flatMap nameC
def octC (n : Nat) : UInt8 := UInt8.ofNat (48 + n)
def textC (c : UInt8) : List UInt8 :=
  if c.toNat = 40 ∨ c.toNat = 41 ∨ c.toNat = 92 then [92, c]
  else if c.toNat < 32 ∨ 126 < c.toNat then [92, octC (c.toNat / 64), octC (c.toNat / 8 % 8), octC (c.toNat % 8)] else [c]
def textT (s : List UInt8) : List UInt8 := 40 :: s.flatMap textC ++ [41]
def realT (n : Int) : List UInt8 := if (if fitsI n then n else 0) % 65536 = 0 then printT n ++ [46, 48] else printT n
def tailT (l : List (List UInt8)) : List UInt8 := l.flatMap (fun x => 32 :: x)
def joinT : List (List UInt8) → List UInt8
  | [] => []
  | x :: r => x ++ tailT r
def pairsT : List (List UInt8) → List (List UInt8) → List UInt8
  | k :: ks, x :: xs => 32 :: nameT k ++ 32 :: x ++ pairsT ks xs
  | _, _ => []
def objT (sub : PObj → List UInt8) : PObj → List UInt8
  | .mk k n t keys list data =>
    if k = 0 then nullW else if k = 1 then (if n = 1 then trueW else falseW) else if k = 2 then decT n else if k = 3 then realT n
    else if k = 4 then nameT t else if k = 5 then textT t else if k = 8 then decT n ++ [32, 48, 32, 82]
    else if k = 6 then 91 :: joinT (list.map sub) ++ [93]
    else [60, 60] ++ pairsT keys (list.map sub) ++
      (if k = 7 then [32, 62, 62] else [32, 47, 76, 101, 110, 103, 116, 104, 32] ++ decT data.length ++ [32, 62, 62, 10, 115, 116, 114, 101, 97, 109, 10] ++ data ++ [10, 101, 110, 100, 115, 116, 114, 101, 97, 109])
/-- The text of an object so deep at most. -/
def printO : Nat → PObj → List UInt8
  | 0 => objT (fun _ => [])
  | d + 1 => objT (printO d)

/-! What is sound. -/
def nameOk (s : List UInt8) : Bool := !s.contains 0 && decide (1 ≤ s.length ∧ s.length ≤ 127)
def lenW : List UInt8 := [76, 101, 110, 103, 116, 104]
def keysOk (k : Int) (keys : List (List UInt8)) : Bool := keys.all (fun s => nameOk s && decide (¬ (k = 9 ∧ s = lenW))) && decide keys.Nodup
def objS (deep : Bool) (sub : PObj → Bool) (st : Bool) : PObj → Bool
  | .mk k n t keys list data =>
    if k = 0 then decide (n = 0 ∧ t = [] ∧ keys = []) && list.isEmpty && decide (data = [])
    else if k = 1 then decide ((n = 0 ∨ n = 1) ∧ t = [] ∧ keys = []) && list.isEmpty && decide (data = [])
    else if k = 2 ∨ k = 3 then fitsI n && decide (t = [] ∧ keys = []) && list.isEmpty && decide (data = [])
    else if k = 4 then decide (n = 0) && nameOk t && decide (keys = []) && list.isEmpty && decide (data = [])
    else if k = 5 then decide (n = 0 ∧ t.length ≤ 65535 ∧ keys = []) && list.isEmpty && decide (data = [])
    else if k = 8 then decide (1 ≤ n ∧ n ≤ 4096 ∧ t = [] ∧ keys = []) && list.isEmpty && decide (data = [])
    else if k = 6 then deep && decide (n = 0 ∧ t = [] ∧ keys = [] ∧ data = []) && decide (list.length ≤ 65535) && list.all sub
    else if k = 7 ∨ k = 9 then
      deep && decide (n = 0 ∧ t = [] ∧ keys.length = list.length) && (if k = 7 then decide (data = []) else st && decide (data.length ≤ 1048576)) && keysOk k keys && decide (list.length ≤ 65535) && list.all sub
    else false
def soundO : Nat → Bool → PObj → Bool
  | 0, st, o => objS false (fun _ => false) st o
  | d + 1, st, o => objS true (soundO d false) st o
def maxL (l : List Nat) : Nat := l.foldl max 0
def depthO : Nat → PObj → Nat
  | 0, _ => 0
  | d + 1, .mk k _ _ _ list _ => if k = 6 ∨ k = 7 then maxL (list.map (depthO d)) + 1 else 0
mutual
/-- How much an object is. -/
def sizeO : PObj → Nat
  | .mk _ _ t keys list data => 7 + t.length + (keys.map (fun s => s.length + 1)).sum + sizeL list + data.length
def sizeL : List PObj → Nat
  | [] => 0
  | o :: r => sizeO o + sizeL r
end
end Go.Proofs.YtdjhjfpeckndkaaGreatDoor
namespace Go.Proofs.YtdjhjfpeckndkaaGreatDoor

def stopL (l : List UInt8) : Prop := l = [] ∨ ∃ c r, l = c :: r ∧ regB c = false
theorem takeWhile_stop (a rest : List UInt8) (ha : a.all regB = true) (hs : stopL rest) : (a ++ rest).takeWhile regB = a := by
  rw [List.takeWhile_append_of_pos (by simpa using ha)]
  rcases hs with rfl | ⟨c, r, rfl, h⟩
  · simp
  · simp [List.takeWhile_cons, h]
theorem wordS_eq (bs : List UInt8) (k : Nat) : wordS bs k = (bs.drop k).takeWhile regB := by
  unfold wordS wordF wordN
  rw [List.drop_take, Nat.add_sub_cancel_left]
  exact (List.prefix_iff_eq_take.1 (List.takeWhile_prefix _)).symm
theorem drop_get {bs : List UInt8} {k : Nat} {c : UInt8} {r : List UInt8} (h : bs.drop k = c :: r) : bs[k]? = some c ∧ bs.drop (k + 1) = r := by
  constructor
  · have : (bs.drop k)[0]? = some c := by rw [h]; rfl
    rwa [List.getElem?_drop, Nat.add_zero] at this
  · rw [← List.drop_drop, h]; rfl
theorem drop_app {bs a r : List UInt8} {k : Nat} (h : bs.drop k = a ++ r) : bs.drop (k + a.length) = r := by
  rw [← List.drop_drop, h, List.drop_left]
theorem word_at {bs a rest : List UInt8} {k : Nat} (h : bs.drop k = a ++ rest) (ha : a.all regB = true) (hs : stopL rest) : wordS bs k = a ∧ wordF bs k = k + a.length ∧ bs.drop (wordF bs k) = rest := by
  have h1 : wordS bs k = a := by rw [wordS_eq, h, takeWhile_stop a rest ha hs]
  have h2 : wordF bs k = k + a.length := by
    unfold wordF wordN
    rw [h, takeWhile_stop a rest ha hs]
  exact ⟨h1, h2, by rw [h2]; exact drop_app h⟩
theorem skip_none {bs : List UInt8} {k : Nat} {c : UInt8} {r : List UInt8} (h : bs.drop k = c :: r) (hb : blankB c = false) (hp : c.toNat ≠ 37) : skipF bs k = k := by
  unfold skipF
  rw [h]
  simp [skipN, hb, hp]
theorem skip_one {bs : List UInt8} {k : Nat} {c : UInt8} {r : List UInt8} (h : bs.drop k = 32 :: c :: r) (hb : blankB c = false) (hp : c.toNat ≠ 37) : skipF bs k = k + 1 := by
  unfold skipF
  rw [h]
  have h32 : blankB 32 = true := by decide
  simp [skipN, hb, hp, h32]

/-! Names. -/
theorem nameC_reg : ∀ c : UInt8, (nameC c).all regB = true := all_u8 (by decide +kernel)
theorem name_reg (s : List UInt8) : (s.flatMap nameC).all regB = true := by
  rw [List.all_flatMap, List.all_eq_true]
  exact fun c _ => nameC_reg c
theorem hex_hi : ∀ c : UInt8, hexV (hexC (c.toNat / 16)) = ((c.toNat / 16 : Nat) : Int) := all_u8 (by decide +kernel)
theorem hex_lo : ∀ c : UInt8, hexV (hexC (c.toNat % 16)) = ((c.toNat % 16 : Nat) : Int) := all_u8 (by decide +kernel)
theorem nameD_one (c : UInt8) (r : List UInt8) : nameD (nameC c ++ r) = (nameD r).map (c :: ·) := by
  unfold nameC
  split
  · show nameD (35 :: hexC (c.toNat / 16) :: hexC (c.toNat % 16) :: r) = _
    have h35 : (35 : UInt8).toNat = 35 := rfl
    rw [nameD, if_pos h35]
    rw [hex_hi, hex_lo, if_pos ⟨by omega, by omega⟩]
    have : (16 * ((c.toNat / 16 : Nat) : Int) + ((c.toNat % 16 : Nat) : Int)).toNat = c.toNat := by omega
    rw [this, UInt8.ofNat_toNat]
  · rename_i h
    have h35 : ¬ c.toNat = 35 := fun e => h (.inr (.inr (.inl e)))
    show nameD (c :: r) = _
    conv => lhs; unfold nameD
    rw [if_neg h35]
theorem nameD_print : ∀ s : List UInt8, nameD (s.flatMap nameC) = some s
  | [] => rfl
  | c :: s => by
    rw [List.flatMap_cons, nameD_one, nameD_print s]
    rfl
theorem nameP_print {bs s rest : List UInt8} {k : Nat} (h : bs.drop k = s.flatMap nameC ++ rest) (hs : stopL rest) (hok : nameOk s = true) :
    nameP bs k = .ok (s, k + (s.flatMap nameC).length) := by
  obtain ⟨h1, h2, _⟩ := word_at h (name_reg s) hs
  unfold nameOk at hok
  simp only [Bool.and_eq_true, Bool.not_eq_true', decide_eq_true_eq] at hok
  have h0 : ¬ (s = [] ∨ (0 : UInt8) ∈ s) := by
    rintro (rfl | hm)
    · simp at hok
    · have : s.contains 0 = true := by simpa using hm
      rw [hok.1] at this; cases this
  unfold nameP
  rw [h1, nameD_print]
  simp only
  rw [if_neg h0, if_neg (by omega), h2]

/-! Strings. -/
theorem oct_a : ∀ c : UInt8, (octC (c.toNat / 64)).toNat = 48 + c.toNat / 64 := all_u8 (by decide +kernel)
theorem oct_b : ∀ c : UInt8, (octC (c.toNat / 8 % 8)).toNat = 48 + c.toNat / 8 % 8 := all_u8 (by decide +kernel)
theorem oct_c : ∀ c : UInt8, (octC (c.toNat % 8)).toNat = 48 + c.toNat % 8 := all_u8 (by decide +kernel)
theorem roundP_cons {bs : List UInt8} {k depth : Nat} {acc : List UInt8} {c : UInt8} {r : List UInt8} (h : bs.drop k = c :: r) (h40 : c.toNat ≠ 40) (h41 : c.toNat ≠ 41) (h92 : c.toNat ≠ 92) (h13 : c.toNat ≠ 13) :
    roundP bs k depth acc = roundP bs (k + 1) depth (acc ++ [c]) := by
  obtain ⟨hk, he⟩ := List.getElem?_eq_some_iff.1 (drop_get h).1
  rw [roundP]
  simp only [hk, dite_true]
  rw [he]
  simp only [h40, h41, h92, h13, if_false]
theorem roundP_esc {bs : List UInt8} {k depth : Nat} {acc : List UInt8} {d : UInt8} {r : List UInt8} (h : bs.drop k = 92 :: d :: r) :
    roundP bs k depth acc = roundP bs (escP bs (k + 2) d).2 depth (acc ++ (escP bs (k + 2) d).1) := by
  obtain ⟨h1, h2⟩ := drop_get h
  obtain ⟨hk, he⟩ := List.getElem?_eq_some_iff.1 h1
  obtain ⟨hk2, he2⟩ := List.getElem?_eq_some_iff.1 (drop_get h2).1
  rw [roundP]
  simp only [hk, dite_true]
  rw [he]
  simp only [hk2, dite_true, he2]
  have e1 : ¬ (92 : UInt8).toNat = 40 := by decide
  have e2 : ¬ (92 : UInt8).toNat = 41 := by decide
  have e3 : (92 : UInt8).toNat = 92 := by decide
  rw [if_neg e1, if_neg e2, if_pos e3]
theorem roundP_one {bs : List UInt8} {k depth : Nat} {acc : List UInt8} {c : UInt8} {r : List UInt8} (h : bs.drop k = textC c ++ r) :
    roundP bs k depth acc = roundP bs (k + (textC c).length) depth (acc ++ [c]) := by
  unfold textC at h ⊢
  by_cases h1 : c.toNat = 40 ∨ c.toNat = 41 ∨ c.toNat = 92
  · rw [if_pos h1] at h ⊢
    rw [roundP_esc h]
    have : escP bs (k + 2) c = ([c], k + 2) := by
      unfold escP octB
      rw [if_neg (by omega), if_neg (by omega), if_neg (by omega), if_neg (by omega), if_neg (by omega), if_neg (by omega), if_neg (by omega), if_pos (by simp; omega)]
    rw [this]
    rfl
  · rw [if_neg h1] at h ⊢
    by_cases h2 : c.toNat < 32 ∨ 126 < c.toNat
    · rw [if_pos h2] at h ⊢
      have hl := c.toNat_lt
      obtain ⟨_, g1⟩ := drop_get (show bs.drop k = 92 :: (octC (c.toNat / 64) :: octC (c.toNat / 8 % 8) :: octC (c.toNat % 8) :: r) from h)
      obtain ⟨_, g2⟩ := drop_get g1
      obtain ⟨b2, g3⟩ := drop_get g2
      obtain ⟨b3, _⟩ := drop_get g3
      have oa := oct_a c
      have ob := oct_b c
      have oc := oct_c c
      rw [roundP_esc h]
      have hE : escP bs (k + 2) (octC (c.toNat / 64)) = ([c], k + 4) := by
        have i1 : isOct bs (k + 2) = true := by unfold isOct; rw [show k + 2 = k + 1 + 1 from rfl, b2]; simp only [octB, ob, decide_eq_true_eq]; omega
        have i2 : isOct bs (k + 2 + 1) = true := by unfold isOct; rw [show k + 2 + 1 = k + 1 + 1 + 1 from rfl, b3]; simp only [octB, oc, decide_eq_true_eq]; omega
        have v1 : octV bs (k + 2) = c.toNat / 8 % 8 := by unfold octV; rw [show k + 2 = k + 1 + 1 from rfl, b2]; simp only [ob]; omega
        have v2 : octV bs (k + 2 + 1) = c.toNat % 8 := by unfold octV; rw [show k + 2 + 1 = k + 1 + 1 + 1 from rfl, b3]; simp only [oc]; omega
        have hb : octB (octC (c.toNat / 64)) = true := by simp only [octB, oa, decide_eq_true_eq]; omega
        unfold escP
        rw [if_neg (by omega), if_neg (by omega), if_neg (by omega), if_neg (by omega), if_neg (by omega), if_neg (by omega), if_neg (by omega), if_neg (by rw [hb]; simp), if_neg (by rw [i1]; simp), if_neg (by rw [i2]; simp), v1, v2, oa]
        have : 8 * (8 * (48 + c.toNat / 64 - 48) + c.toNat / 8 % 8) + c.toNat % 8 = c.toNat := by omega
        rw [this, UInt8.ofNat_toNat]
      rw [hE]
      rfl
    · rw [if_neg h2] at h ⊢
      exact roundP_cons h (by omega) (by omega) (by omega) (by omega)
theorem roundP_print {bs rest : List UInt8} : ∀ (s : List UInt8) (k : Nat) (acc : List UInt8), bs.drop k = s.flatMap textC ++ 41 :: rest →
    roundP bs k 1 acc = some (acc ++ s, k + (s.flatMap textC).length + 1)
  | [], k, acc, h => by
    obtain ⟨hk, he⟩ := List.getElem?_eq_some_iff.1 (drop_get (show bs.drop k = 41 :: rest from h)).1
    rw [roundP]
    simp only [hk, dite_true]
    rw [he]
    have e1 : ¬ (41 : UInt8).toNat = 40 := by decide
    have e2 : (41 : UInt8).toNat = 41 := by decide
    rw [if_neg e1, if_pos e2]
    simp
  | c :: s, k, acc, h => by
    rw [List.flatMap_cons, List.append_assoc] at h
    rw [roundP_one h, roundP_print s _ _ (drop_app h)]
    simp only [List.flatMap_cons, List.length_append, List.append_assoc, List.singleton_append, Nat.add_assoc]
theorem textP_print {bs s rest : List UInt8} {k : Nat} (h : bs.drop k = textT s ++ rest) (hs : s.length ≤ 65535) : textP bs k = .ok (s, k + (textT s).length) := by
  unfold textT at h
  obtain ⟨h1, h2⟩ := drop_get (show bs.drop k = 40 :: (s.flatMap textC ++ [41] ++ rest) from h)
  rw [List.append_assoc] at h2
  unfold textP
  rw [if_pos h1, roundP_print s (k + 1) [] h2]
  simp only [List.nil_append]
  rw [if_neg (by omega)]
  have e : k + 1 + (s.flatMap textC).length + 1 = k + (textT s).length := by
    unfold textT
    simp only [List.length_append, List.length_cons, List.length_nil]
    omega
  rw [e]

/-! Words. -/
def numC (c : UInt8) : Bool := isD c || c.toNat == 45 || c.toNat == 46
theorem numC_reg : ∀ c : UInt8, numC c = true → regB c = true := all_u8 (by decide +kernel)
theorem numC_bad : ∀ c : UInt8, numC c = true → (c.toNat == 101 || c.toNat == 69 || c.toNat == 35 || decide (128 ≤ c.toNat)) = false := all_u8 (by decide +kernel)
theorem isD_numC (c : UInt8) (h : isD c = true) : numC c = true := by unfold numC; rw [h]; rfl
theorem plain_numC (l : List UInt8) (h : plainD l = true) : l.all numC = true := by
  rw [List.all_eq_true]; exact fun c hc => isD_numC c (plainD_digs l h c hc)
theorem num_reg (l : List UInt8) (h : l.all numC = true) : l.all regB = true := by
  rw [List.all_eq_true] at h ⊢; exact fun c hc => numC_reg c (h c hc)
theorem num_bad (l : List UInt8) (h : l.all numC = true) : badW l = false := by
  rw [List.all_eq_true] at h
  unfold badW
  rw [List.any_eq_false]
  intro c hc
  rw [numC_bad c (h c hc)]; simp
theorem sign_numC (n : Int) : ((if n < 0 then [45] else []) : List UInt8).all numC = true := by split <;> decide
theorem decT_numC (n : Int) : (decT n).all numC = true := by
  unfold decT
  rw [List.all_append, sign_numC, plain_numC _ (digU_plain _)]; rfl
theorem printT_numC (n : Int) : (printT n).all numC = true := by
  unfold printT
  split
  · rw [List.all_append, List.all_append, sign_numC, plain_numC _ (digU_plain _)]
    split
    · rfl
    · unfold fracT
      rw [List.all_cons, plain_numC _ (fracD_digs 16 _ (Nat.mod_lt _ (by omega)))]; decide
  · decide
theorem realT_numC (n : Int) : (realT n).all numC = true := by
  unfold realT
  generalize (if fitsI n = true then n else 0) = m
  split
  · rw [List.all_append, printT_numC]; decide
  · exact printT_numC n
theorem num_word {l : List UInt8} (h : l.all numC = true) : l ≠ nullW ∧ l ≠ trueW ∧ l ≠ falseW := by
  refine ⟨?_, ?_, ?_⟩ <;> (rintro rfl; revert h; decide)
theorem hasB_of {c : UInt8} {l : List UInt8} (h : c ∈ l) : hasB c l = true := by unfold hasB; simpa using h
theorem hasB_no {c : UInt8} {l : List UInt8} (h : ∀ x ∈ l, x ≠ c) : hasB c l = false := by
  unfold hasB
  cases hc : l.contains c
  · rfl
  · exact absurd rfl (h c (by simpa using hc))
theorem decT_nodot (n : Int) : hasB 46 (decT n) = false := by
  refine hasB_no fun x hx => ?_
  unfold decT at hx
  rcases List.mem_append.1 hx with h | h
  · split at h
    · simp at h; rw [h]; decide
    · simp at h
  · have := nodot_plain _ (digU_plain _) x h
    simpa using this
theorem digU_len10 (n : Nat) (h : n < 10000000000) : (digU n).length ≤ 10 := digU_len 9 n h
theorem decT_len (n : Int) (h : fitsI n = true) : (decT n).length ≤ 11 := by
  unfold fitsI at h
  simp only [decide_eq_true_eq] at h
  have := digU_len10 n.natAbs (by omega)
  unfold decT
  rw [List.length_append]
  split <;> simp <;> omega
theorem decT_whole (n : Int) (h : fitsI n = true) : wholeB (decT n) = true ∧ wholeI (decT n) = n := by
  have hs : signP (decT n) = (decide (n < 0), digU n.natAbs) := signed_print n _ ⟨digU n.natAbs, [], by simp, digU_plain _, digU_ne _⟩
  have hf := h
  unfold fitsI at hf
  simp only [decide_eq_true_eq] at hf
  have hi : wholeI (decT n) = n := by
    unfold wholeI
    rw [hs]
    simp only
    rw [digU_num]
    have : capN n.natAbs = n.natAbs := by unfold capN; omega
    rw [this]
    exact negI_abs n
  refine ⟨?_, hi⟩
  unfold wholeB
  rw [hi, hs]
  simp only
  rw [digU_plain, h]
  have : (digU n.natAbs).isEmpty = false := by
    cases hd : digU n.natAbs with
    | nil => exact absurd hd (digU_ne _)
    | cons => rfl
  rw [this]; rfl
theorem decT_num (n : Int) (h : fitsI n = true) : numO (decT n) = true ∧ numK (decT n) = 2 ∧ numV (decT n) = n := by
  obtain ⟨h1, h2⟩ := decT_whole n h
  have h3 := decT_len n h
  have h4 : (decT n).length ≤ 64 ∧ wholeB (decT n) = true := ⟨by omega, h1⟩
  unfold numO numK numV
  rw [decT_nodot]
  simp only [Bool.false_eq_true, if_false]
  rw [decide_eq_true h4, if_pos h4, if_pos h4]
  exact ⟨rfl, rfl, h2⟩
theorem realT_body (n : Int) (h : fitsI n = true) : realT n = (if n < 0 then [45] else []) ++ digU (n.natAbs / 65536) ++ (if n.natAbs % 65536 = 0 then [46, 48] else 46 :: fracT (n.natAbs % 65536)) := by
  unfold realT printT
  rw [h]
  simp only [if_true]
  by_cases h0 : n.natAbs % 65536 = 0
  · rw [if_pos (by omega), if_pos h0, if_pos h0, List.append_nil]
  · rw [if_neg (by omega), if_neg h0, if_neg h0]
theorem realT_dot (n : Int) (h : fitsI n = true) : hasB 46 (realT n) = true := by
  rw [realT_body n h]
  refine hasB_of (List.mem_append_right _ ?_)
  split <;> simp
theorem realT_num (n : Int) (h : fitsI n = true) : numO (realT n) = true ∧ numK (realT n) = 3 ∧ numV (realT n) = n := by
  have h1 := parse_print_with n [46, 48] h (.inr rfl)
  simp only at h1
  rw [← realT_body n h] at h1
  unfold numO numK numV
  rw [realT_dot n h]
  simp only [if_true]
  exact ⟨h1.1, trivial, h1.2⟩
theorem realT_noref (n : Int) (h : fitsI n = true) (most : Int) : pwholeB (realT n) most = false := by
  have : plainD (realT n) = false := by
    cases hp : plainD (realT n)
    · rfl
    · have h1 := realT_dot n h
      unfold hasB at h1
      have h2 := plainD_digs _ hp 46 (by simpa using h1)
      revert h2; decide
  unfold pwholeB
  rw [this]; simp
/-! What stands behind an object: no reference goes on in it. -/
def skL (l : List UInt8) : List UInt8 := l.drop (skipN false l)
def wdL (l : List UInt8) : List UInt8 := l.takeWhile regB
def afL (l : List UInt8) : List UInt8 := l.drop (wdL l).length
def notR (l : List UInt8) : Prop := wdL (skL l) ≠ [82]
def noRef (l : List UInt8) : Prop := ¬ (wdL (skL l) = [48] ∧ wdL (skL (afL (skL l))) = [82])
theorem skip_drop (bs : List UInt8) (k : Nat) : bs.drop (skipF bs k) = skL (bs.drop k) := by
  unfold skipF skL
  rw [List.drop_drop]
theorem wordS_L (bs : List UInt8) (k : Nat) : wordS bs k = wdL (bs.drop k) := wordS_eq bs k
theorem word_drop (bs : List UInt8) (k : Nat) : bs.drop (wordF bs k) = afL (bs.drop k) := by
  unfold wordF afL wordN wdL
  rw [List.drop_drop]
theorem refP_none {bs : List UInt8} {k : Nat} (l : List UInt8) (refs : Bool) (h : noRef (bs.drop k)) : refP bs refs k l = none := by
  unfold refP
  rw [if_neg]
  intro hc
  simp only [Bool.and_eq_true, decide_eq_true_eq] at hc
  apply h
  rw [← skip_drop, ← wordS_L, ← word_drop, ← skip_drop, ← wordS_L]
  exact ⟨hc.1.2, hc.2⟩
theorem skL_none {c : UInt8} {r : List UInt8} (hb : blankB c = false) (hp : c.toNat ≠ 37) : skL (c :: r) = c :: r := by
  unfold skL; simp [skipN, hb, hp]
theorem skL_one {c : UInt8} {r : List UInt8} (hb : blankB c = false) (hp : c.toNat ≠ 37) : skL (32 :: c :: r) = c :: r := by
  unfold skL
  have h32 : blankB 32 = true := by decide
  simp [skipN, hb, hp, h32]
theorem wdL_word {a rest : List UInt8} (ha : a.all regB = true) (hs : stopL rest) : wdL (a ++ rest) = a ∧ afL (a ++ rest) = rest := by
  have h := takeWhile_stop a rest ha hs
  refine ⟨h, ?_⟩
  unfold afL wdL
  rw [h, List.drop_left]
theorem wdL_stop {c : UInt8} {r : List UInt8} (h : regB c = false) : wdL (c :: r) = [] := by
  unfold wdL; simp [List.takeWhile_cons, h]
end Go.Proofs.YtdjhjfpeckndkaaGreatDoor
namespace Go.Proofs.YtdjhjfpeckndkaaGreatDoor

theorem numC_first {c : UInt8} (h : numC c = true) : c.toNat ≠ 47 ∧ c.toNat ≠ 91 ∧ c.toNat ≠ 40 ∧ c.toNat ≠ 60 ∧ c.toNat ≠ 37 ∧ c.toNat ≠ 93 ∧ blankB c = false :=
  (all_u8 (p := fun c => numC c = true → c.toNat ≠ 47 ∧ c.toNat ≠ 91 ∧ c.toNat ≠ 40 ∧ c.toNat ≠ 60 ∧ c.toNat ≠ 37 ∧ c.toNat ≠ 93 ∧ blankB c = false) (by decide +kernel)) c h
theorem decT_ne (n : Int) : decT n ≠ [] := by
  unfold decT
  intro h
  exact digU_ne _ (List.append_eq_nil_iff.1 h).2
theorem printT_ne (n : Int) : printT n ≠ [] := by
  unfold printT
  intro h
  split at h
  · exact digU_ne _ (List.append_eq_nil_iff.1 (List.append_eq_nil_iff.1 h).1).2
  · simp at h
theorem realT_ne (n : Int) : realT n ≠ [] := by
  unfold realT
  generalize (if fitsI n = true then n else 0) = m
  split
  · exact fun h => printT_ne n (List.append_eq_nil_iff.1 h).1
  · exact printT_ne n
theorem num_cons {l : List UInt8} (hne : l ≠ []) (h : l.all numC = true) : ∃ c r, l = c :: r ∧ numC c = true := by
  match l, hne with
  | c :: r, _ => exact ⟨c, r, rfl, by simp only [List.all_cons, Bool.and_eq_true] at h; exact h.1⟩
/-- A word of a number's bytes. -/
theorem objP_num {bs l rest : List UInt8} {k f : Nat} {deep : Int} (h : bs.drop k = l ++ rest) (hne : l ≠ []) (hl : l.all numC = true) (hs : stopL rest) (hr : refP bs true (k + l.length) l = none) (ho : numO l = true) :
    objP (f + 1) bs true deep k = .ok (simpleO (numK l) (numV l) [], k + l.length) := by
  obtain ⟨c, r, rfl, hc⟩ := num_cons hne hl
  obtain ⟨h1, h2, _⟩ := word_at h (num_reg _ hl) hs
  obtain ⟨hg, _⟩ := drop_get (show bs.drop k = c :: (r ++ rest) from h)
  obtain ⟨a1, a2, a3, a4, _⟩ := numC_first hc
  obtain ⟨w1, w2, w3⟩ := num_word hl
  have hb : wordBad bs true k = false := by
    unfold wordBad
    simp only
    rw [h1, num_bad _ hl]; simp
  have hw : wordO bs true k = (some (simpleO (numK (c :: r)) (numV (c :: r)) []), k + (c :: r).length) := by
    unfold wordO
    simp only
    rw [h1, h2, if_neg w1, if_neg w2, if_neg w3, hr]
    simp only
    rw [if_pos ho]
  rw [objP]
  simp only [hg]
  rw [if_neg a1, if_neg a2, if_neg a3, if_neg a4, hb, hw]
  simp
theorem objP_fixed {bs l rest : List UInt8} {k f : Nat} {deep : Int} {o : PObj} {c : UInt8} {r : List UInt8} (h : bs.drop k = l ++ rest) (hl : l.all regB = true) (hs : stopL rest) (hc : l = c :: r)
    (h1 : c.toNat ≠ 47) (h2 : c.toNat ≠ 91) (h3 : c.toNat ≠ 40) (h4 : c.toNat ≠ 60) (ho : (l = nullW ∧ o = simpleO 0 0 []) ∨ (l = trueW ∧ o = simpleO 1 1 []) ∨ (l = falseW ∧ o = simpleO 1 0 [])) :
    objP (f + 1) bs true deep k = .ok (o, k + l.length) := by
  obtain ⟨w1, w2, _⟩ := word_at h hl hs
  have hg := (drop_get (show bs.drop k = c :: (r ++ rest) by rw [h, hc]; rfl)).1
  have hb : wordBad bs true k = false := by
    unfold wordBad
    simp only
    rw [w1]
    rcases ho with ⟨rfl, _⟩ | ⟨rfl, _⟩ | ⟨rfl, _⟩ <;> simp
  have hw : wordO bs true k = (some o, k + l.length) := by
    unfold wordO
    simp only
    rw [w1, w2]
    rcases ho with ⟨rfl, rfl⟩ | ⟨rfl, rfl⟩ | ⟨rfl, rfl⟩
    · rw [if_pos rfl]
    · rw [if_neg (by decide), if_pos rfl]
    · rw [if_neg (by decide), if_neg (by decide), if_pos rfl]
  rw [objP]
  simp only [hg]
  rw [if_neg h1, if_neg h2, if_neg h3, if_neg h4, hb, hw]
  simp
theorem objP_ref {bs rest : List UInt8} {k f : Nat} {deep n : Int} (h : bs.drop k = decT n ++ [32, 48, 32, 82] ++ rest) (h1 : 1 ≤ n) (h2 : n ≤ 4096) (hs : stopL rest) :
    objP (f + 1) bs true deep k = .ok (simpleO 8 n [], k + (decT n ++ [32, 48, 32, 82]).length) := by
  have hl := decT_numC n
  rw [List.append_assoc] at h
  obtain ⟨c, r, hcr, hc⟩ := num_cons (decT_ne n) hl
  obtain ⟨a1, a2, a3, a4, _⟩ := numC_first hc
  obtain ⟨n1, n2, n3⟩ := num_word hl
  obtain ⟨w1, w2, w3⟩ := word_at h (num_reg _ hl) (.inr ⟨32, _, rfl, by decide⟩)
  have hg := (drop_get (show bs.drop k = c :: (r ++ ([32, 48, 32, 82] ++ rest)) by rw [h, hcr]; rfl)).1
  have s1 : skipF bs (k + (decT n).length) = k + (decT n).length + 1 := skip_one (by rw [← w2]; exact w3) (by decide) (by decide)
  have d1 : bs.drop (k + (decT n).length + 1) = [48] ++ (32 :: 82 :: rest) := by rw [← w2]; exact (drop_get w3).2
  obtain ⟨x1, x2, x3⟩ := word_at d1 (by decide) (.inr ⟨32, _, rfl, by decide⟩)
  have x2' : wordF bs (k + (decT n).length + 1) = k + (decT n).length + 2 := x2
  rw [x2'] at x3
  have s2 : skipF bs (k + (decT n).length + 2) = k + (decT n).length + 3 := skip_one x3 (by decide) (by decide)
  have d2 : bs.drop (k + (decT n).length + 3) = [82] ++ rest := (drop_get x3).2
  obtain ⟨y1, y2, _⟩ := word_at d2 (by decide) hs
  have hdec : decT n = digU n.natAbs := by unfold decT; rw [if_neg (by omega)]; rfl
  have hnum : numD 0 (decT n) = n.natAbs := by rw [hdec]; exact digU_num _
  have hpw : pwholeB (decT n) 4096 = true := by
    unfold pwholeB
    rw [hnum, hdec, digU_plain, decide_eq_true ⟨digU_ne _, digU_len10 _ (by omega)⟩, decide_eq_true (by omega)]; rfl
  have hr : refP bs true (k + (decT n).length) (decT n) = some (n.natAbs, k + (decT n).length + 4) := by
    unfold refP
    rw [s1, x1, x2', s2, y1, y2, hnum, hpw, if_pos (by simp; omega)]
    rfl
  have hb : wordBad bs true k = false := by
    unfold wordBad
    simp only
    rw [w1, num_bad _ hl]; simp
  have hw : wordO bs true k = (some (simpleO 8 n []), k + (decT n ++ [32, 48, 32, 82]).length) := by
    unfold wordO
    simp only
    rw [w1, w2, if_neg n1, if_neg n2, if_neg n3, hr]
    simp only
    have e : ((n.natAbs : Nat) : Int) = n := by omega
    rw [e, List.length_append]
    rfl
  rw [objP]
  simp only [hg]
  rw [if_neg a1, if_neg a2, if_neg a3, if_neg a4, hb, hw]
  simp

/-- What is read of the text of an object that is no list. -/
theorem back_simple (b : Bool) (sub : PObj → Bool) (txt : PObj → List UInt8) (o : PObj) (hs : objS b sub false o = true) (h6 : o.kind ≠ 6) (h7 : o.kind ≠ 7) (deep : Int) (bs rest : List UInt8) (k f : Nat)
    (h : bs.drop k = objT txt o ++ rest) (hst : stopL rest) (hnr : o.kind = 2 → noRef rest) : objP (f + 1) bs true deep k = .ok (o, k + (objT txt o).length) := by
  obtain ⟨kd, n, t, keys, list, data⟩ := o
  simp only [PObj.kind] at h6 h7 hnr
  unfold objS at hs
  unfold objT at h ⊢
  dsimp only at hs h ⊢
  by_cases k0 : kd = 0
  · subst k0
    simp only [if_true, Bool.and_eq_true, decide_eq_true_eq, List.isEmpty_iff] at hs h ⊢
    obtain ⟨⟨⟨rfl, rfl, rfl⟩, rfl⟩, rfl⟩ := hs
    exact objP_fixed h (by decide) hst rfl (by decide) (by decide) (by decide) (by decide) (.inl ⟨rfl, rfl⟩)
  rw [if_neg k0] at hs h ⊢
  by_cases k1 : kd = 1
  · subst k1
    simp only [if_true, Bool.and_eq_true, decide_eq_true_eq, List.isEmpty_iff] at hs h ⊢
    obtain ⟨⟨⟨hn, rfl, rfl⟩, rfl⟩, rfl⟩ := hs
    rcases hn with rfl | rfl
    · exact objP_fixed h (by decide) hst rfl (by decide) (by decide) (by decide) (by decide) (.inr (.inr ⟨rfl, rfl⟩))
    · exact objP_fixed h (by decide) hst rfl (by decide) (by decide) (by decide) (by decide) (.inr (.inl ⟨rfl, rfl⟩))
  rw [if_neg k1] at hs h ⊢
  by_cases k2 : kd = 2
  · subst k2
    simp only [true_or, if_true, Bool.and_eq_true, decide_eq_true_eq, List.isEmpty_iff] at hs h ⊢
    obtain ⟨⟨⟨hf, rfl, rfl⟩, rfl⟩, rfl⟩ := hs
    obtain ⟨o1, o2, o3⟩ := decT_num n hf
    have := objP_num (f := f) (deep := deep) h (decT_ne n) (decT_numC n) hst (refP_none _ _ (by rw [drop_app h]; exact hnr rfl)) o1
    rw [o2, o3] at this
    exact this
  rw [if_neg k2] at h ⊢
  by_cases k3 : kd = 3
  · subst k3
    simp only [or_true, if_true, Bool.and_eq_true, decide_eq_true_eq, List.isEmpty_iff] at hs h ⊢
    obtain ⟨⟨⟨hf, rfl, rfl⟩, rfl⟩, rfl⟩ := hs
    obtain ⟨o1, o2, o3⟩ := realT_num n hf
    have := objP_num (f := f) (deep := deep) h (realT_ne n) (realT_numC n) hst (by unfold refP; rw [realT_noref n hf]; simp) o1
    rw [o2, o3] at this
    exact this
  rw [if_neg (by omega)] at hs
  rw [if_neg k3] at h ⊢
  by_cases k4 : kd = 4
  · subst k4
    simp only [if_true, Bool.and_eq_true, decide_eq_true_eq, List.isEmpty_iff] at hs h ⊢
    obtain ⟨⟨⟨⟨rfl, hok⟩, rfl⟩, rfl⟩, rfl⟩ := hs
    obtain ⟨h1, h2⟩ := drop_get (show bs.drop k = 47 :: (t.flatMap nameC ++ rest) from h)
    rw [objP]
    simp only [h1]
    rw [if_pos (by decide), nameP_print h2 hst hok]
    simp only [nameT, List.length_cons, simpleO]
    congr 2
    omega
  rw [if_neg k4] at hs h ⊢
  by_cases k5 : kd = 5
  · subst k5
    simp only [if_true, Bool.and_eq_true, decide_eq_true_eq, List.isEmpty_iff] at hs h ⊢
    obtain ⟨⟨⟨rfl, hl, rfl⟩, rfl⟩, rfl⟩ := hs
    obtain ⟨h1, _⟩ := drop_get (show bs.drop k = 40 :: (t.flatMap textC ++ [41] ++ rest) from h)
    rw [objP]
    simp only [h1]
    rw [if_neg (by decide), if_neg (by decide), if_pos (by decide), textP_print h hl]
    rfl
  rw [if_neg k5] at hs h ⊢
  by_cases k8 : kd = 8
  · subst k8
    simp only [if_true, Bool.and_eq_true, decide_eq_true_eq, List.isEmpty_iff] at hs h ⊢
    obtain ⟨⟨⟨hn1, hn2, rfl, rfl⟩, rfl⟩, rfl⟩ := hs
    exact objP_ref h hn1 hn2 hst
  rw [if_neg k8, if_neg h6] at hs
  exfalso
  by_cases k9 : kd = 9
  · subst k9
    simp at hs
  · rw [if_neg (by omega)] at hs
    cases hs
/-- How an object's text begins. -/
theorem first_any (b : Bool) (sub : PObj → Bool) (txt : PObj → List UInt8) (o : PObj) (hs : objS b sub false o = true) :
    ∃ c r, objT txt o = c :: r ∧ blankB c = false ∧ c.toNat ≠ 37 ∧ c.toNat ≠ 93 ∧
      ∀ rest, stopL rest → wdL (objT txt o ++ rest) ≠ [82] ∧ (wdL (objT txt o ++ rest) = [48] → afL (objT txt o ++ rest) = rest) := by
  have stop0 : ∀ (c : UInt8) (r : List UInt8), blankB c = false → regB c = false → c.toNat ≠ 37 → c.toNat ≠ 93 → ∃ c' r', (c :: r) = c' :: r' ∧ blankB c' = false ∧ c'.toNat ≠ 37 ∧ c'.toNat ≠ 93 ∧
      ∀ rest, stopL rest → wdL ((c :: r) ++ rest) ≠ [82] ∧ (wdL ((c :: r) ++ rest) = [48] → afL ((c :: r) ++ rest) = rest) := fun c r h1 h2 h3 h4 =>
    ⟨c, r, rfl, h1, h3, h4, fun rest _ => by rw [List.cons_append, wdL_stop h2]; exact ⟨by simp, by simp⟩⟩
  have word0 : ∀ (l : List UInt8), l.all regB = true → l ≠ [82] → (∃ c r, l = c :: r ∧ blankB c = false ∧ c.toNat ≠ 37 ∧ c.toNat ≠ 93) → ∃ c' r', l = c' :: r' ∧ blankB c' = false ∧ c'.toNat ≠ 37 ∧ c'.toNat ≠ 93 ∧
      ∀ rest, stopL rest → wdL (l ++ rest) ≠ [82] ∧ (wdL (l ++ rest) = [48] → afL (l ++ rest) = rest) := fun l h1 h2 ⟨c, r, e, h3, h4, h5⟩ =>
    ⟨c, r, e, h3, h4, h5, fun rest hr => by obtain ⟨a, b⟩ := wdL_word h1 hr; rw [a]; exact ⟨h2, fun _ => b⟩⟩
  have num0 : ∀ (l : List UInt8), l ≠ [] → l.all numC = true → ∃ c' r', l = c' :: r' ∧ blankB c' = false ∧ c'.toNat ≠ 37 ∧ c'.toNat ≠ 93 ∧
      ∀ rest, stopL rest → wdL (l ++ rest) ≠ [82] ∧ (wdL (l ++ rest) = [48] → afL (l ++ rest) = rest) := fun l h1 h2 => by
    obtain ⟨c, r, e, hc⟩ := num_cons h1 h2
    obtain ⟨_, _, _, _, a5, a6, a7⟩ := numC_first hc
    refine word0 l (num_reg l h2) ?_ ⟨c, r, e, a7, a5, a6⟩
    rintro rfl
    revert h2; decide
  obtain ⟨kd, n, t, keys, list, data⟩ := o
  unfold objS at hs
  unfold objT
  dsimp only at hs ⊢
  by_cases k0 : kd = 0
  · rw [if_pos k0]; exact word0 _ (by decide) (by decide) ⟨_, _, rfl, by decide, by decide, by decide⟩
  rw [if_neg k0] at hs ⊢
  by_cases k1 : kd = 1
  · rw [if_pos k1]
    split
    · exact word0 _ (by decide) (by decide) ⟨_, _, rfl, by decide, by decide, by decide⟩
    · exact word0 _ (by decide) (by decide) ⟨_, _, rfl, by decide, by decide, by decide⟩
  rw [if_neg k1] at hs ⊢
  by_cases k2 : kd = 2
  · rw [if_pos k2]; exact num0 _ (decT_ne n) (decT_numC n)
  rw [if_neg k2]
  by_cases k3 : kd = 3
  · rw [if_pos k3]; exact num0 _ (realT_ne n) (realT_numC n)
  rw [if_neg (by omega)] at hs
  rw [if_neg k3]
  by_cases k4 : kd = 4
  · rw [if_pos k4]; exact stop0 47 _ (by decide) (by decide) (by decide) (by decide)
  rw [if_neg k4] at hs ⊢
  by_cases k5 : kd = 5
  · rw [if_pos k5]; exact stop0 40 _ (by decide) (by decide) (by decide) (by decide)
  rw [if_neg k5] at hs ⊢
  by_cases k8 : kd = 8
  · rw [if_pos k8] at hs ⊢
    simp only [Bool.and_eq_true, decide_eq_true_eq] at hs
    obtain ⟨c, r, e, hc⟩ := num_cons (decT_ne n) (decT_numC n)
    obtain ⟨_, _, _, _, a5, a6, a7⟩ := numC_first hc
    refine ⟨c, r ++ [32, 48, 32, 82], by rw [e]; rfl, a7, a5, a6, fun rest hr => ?_⟩
    rw [List.append_assoc]
    obtain ⟨w1, _⟩ := wdL_word (num_reg _ (decT_numC n)) (.inr ⟨32, [48, 32, 82] ++ rest, rfl, by decide⟩ : stopL ([32, 48, 32, 82] ++ rest))
    rw [w1]
    refine ⟨fun h => ?_, fun h => ?_⟩
    · have := decT_numC n
      rw [h] at this
      revert this; decide
    · have h1 := (decT_whole n (by unfold fitsI; simp; omega)).2
      rw [h] at h1
      have : wholeI [48] = 0 := by decide
      omega
  rw [if_neg k8] at hs ⊢
  by_cases k6 : kd = 6
  · rw [if_pos k6]; exact stop0 91 _ (by decide) (by decide) (by decide) (by decide)
  rw [if_neg k6] at hs ⊢
  exact stop0 60 _ (by decide) (by decide) (by decide) (by decide)
end Go.Proofs.YtdjhjfpeckndkaaGreatDoor
namespace Go.Proofs.YtdjhjfpeckndkaaGreatDoor

def subS : Nat → PObj → Bool
  | 0 => fun _ => false
  | d + 1 => soundO d false
def subT : Nat → PObj → List UInt8
  | 0 => fun _ => []
  | d + 1 => printO d
theorem soundO_eq (d : Nat) (st : Bool) (o : PObj) : soundO d st o = objS (decide (0 < d)) (subS d) st o := by cases d <;> rfl
theorem printO_eq (d : Nat) (o : PObj) : printO d o = objT (subT d) o := by cases d <;> rfl
theorem first_obj (d : Nat) (o : PObj) (hs : soundO d false o = true) :
    ∃ c r, printO d o = c :: r ∧ blankB c = false ∧ c.toNat ≠ 37 ∧ c.toNat ≠ 93 ∧
      ∀ rest, stopL rest → wdL (printO d o ++ rest) ≠ [82] ∧ (wdL (printO d o ++ rest) = [48] → afL (printO d o ++ rest) = rest) := by
  rw [soundO_eq] at hs
  rw [printO_eq]
  exact first_any _ _ _ o hs
theorem stop32 (r : List UInt8) : stopL (32 :: r) := .inr ⟨32, r, rfl, by decide⟩
theorem stop93 (r : List UInt8) : stopL (93 :: r) := .inr ⟨93, r, rfl, by decide⟩
/-- What stands behind an element of a list. -/
theorem tail_ok (d : Nat) (rest : List UInt8) : ∀ l : List PObj, (∀ o ∈ l, soundO d false o = true) → stopL (tailT (l.map (printO d)) ++ 93 :: rest) ∧ notR (tailT (l.map (printO d)) ++ 93 :: rest) ∧ noRef (tailT (l.map (printO d)) ++ 93 :: rest)
  | [], _ => by
    refine ⟨stop93 _, ?_, ?_⟩
    · show wdL (skL (93 :: rest)) ≠ [82]
      rw [skL_none (by decide) (by decide), wdL_stop (by decide)]; simp
    · show ¬ (wdL (skL (93 :: rest)) = [48] ∧ _)
      rw [skL_none (by decide) (by decide), wdL_stop (by decide)]; simp
  | o :: l, h => by
    obtain ⟨s1, s2, s3⟩ := tail_ok d rest l (fun x hx => h x (by simp [hx]))
    obtain ⟨c, r, e, h1, h2, h3, h4⟩ := first_obj d o (h o (by simp))
    obtain ⟨a1, a2⟩ := h4 _ s1
    have key : tailT ((o :: l).map (printO d)) ++ 93 :: rest = 32 :: (printO d o ++ (tailT (l.map (printO d)) ++ 93 :: rest)) := by
      simp [tailT]
    have hsk : skL (tailT ((o :: l).map (printO d)) ++ 93 :: rest) = printO d o ++ (tailT (l.map (printO d)) ++ 93 :: rest) := by
      rw [key, e]
      exact skL_one h1 h2
    refine ⟨by rw [key]; exact stop32 _, by unfold notR; rw [hsk]; exact a1, ?_⟩
    unfold noRef
    rw [hsk]
    rintro ⟨b1, b2⟩
    rw [a2 b1] at b2
    exact s2 b2
def Back (d : Nat) : Prop := ∀ (o : PObj) (deep : Int) (bs rest : List UInt8) (k : Nat), soundO d false o = true → (depthO d o : Int) ≤ deep → bs.drop k = printO d o ++ rest → stopL rest → (o.kind = 2 → noRef rest) →
  ∃ f0, ∀ f, f0 ≤ f → objP f bs true deep k = .ok (o, k + (printO d o).length)
theorem listP_end {bs rest : List UInt8} {k f : Nat} {deep : Int} {acc : List PObj} (h : bs.drop k = 93 :: rest) : listP (f + 1) bs true deep k acc = .ok (.mk 6 0 [] [] acc [], k + 1) := by
  have hs := skip_none h (by decide) (by decide)
  rw [listP, hs]
  simp only [(drop_get h).1]
  rw [if_pos (by decide)]
theorem listP_one {bs : List UInt8} {k j j2 f : Nat} {deep : Int} {acc : List PObj} {o : PObj} {c : UInt8} {r : List UInt8} (hk : skipF bs k = j) (h : bs.drop j = c :: r) (hc : c.toNat ≠ 93) (ha : acc.length < 65535)
    (ho : objP f bs true deep j = .ok (o, j2)) : listP (f + 1) bs true deep k acc = listP f bs true deep j2 (acc ++ [o]) := by
  rw [listP, hk]
  simp only [(drop_get h).1]
  rw [if_neg hc, if_neg (by omega), ho]
theorem list_tail (d : Nat) (hB : Back d) (deep : Int) (bs rest : List UInt8) : ∀ (todo acc : List PObj) (k : Nat), (∀ o ∈ todo, soundO d false o = true ∧ (depthO d o : Int) ≤ deep) → acc.length + todo.length ≤ 65535 →
    bs.drop k = tailT (todo.map (printO d)) ++ 93 :: rest → ∃ f0, ∀ f, f0 ≤ f → listP f bs true deep k acc = .ok (.mk 6 0 [] [] (acc ++ todo) [], k + (tailT (todo.map (printO d))).length + 1)
  | [], acc, k, _, _, h => ⟨1, fun f hf => by
    obtain ⟨f, rfl⟩ : ∃ g, f = g + 1 := ⟨f - 1, by omega⟩
    rw [listP_end h]; simp [tailT]⟩
  | o :: todo, acc, k, hs, hl, h => by
    have key : tailT ((o :: todo).map (printO d)) ++ 93 :: rest = 32 :: (printO d o ++ (tailT (todo.map (printO d)) ++ 93 :: rest)) := by simp [tailT]
    rw [key] at h
    obtain ⟨ho, hd⟩ := hs o (by simp)
    obtain ⟨c, r, e, h1, h2, h3, _⟩ := first_obj d o ho
    obtain ⟨s1, _, s3⟩ := tail_ok d rest todo (fun x hx => (hs x (by simp [hx])).1)
    have hk : skipF bs k = k + 1 := by rw [e] at h; exact skip_one h h1 h2
    have hd1 := (drop_get h).2
    obtain ⟨f1, hf1⟩ := hB o deep bs _ (k + 1) ho hd hd1 s1 (fun _ => s3)
    simp only [List.length_cons] at hl
    obtain ⟨f2, hf2⟩ := list_tail d hB deep bs rest todo (acc ++ [o]) (k + 1 + (printO d o).length) (fun x hx => hs x (by simp [hx])) (by simp; omega) (drop_app hd1)
    refine ⟨max f1 f2 + 1, fun f hf => ?_⟩
    obtain ⟨f, rfl⟩ : ∃ g, f = g + 1 := ⟨f - 1, by omega⟩
    rw [listP_one hk (c := c) (r := r ++ _) (by rw [hd1, e]; rfl) h3 (by omega) (hf1 f (by omega)), hf2 f (by omega)]
    simp only [tailT, List.map_cons, List.flatMap_cons, List.length_append, List.length_cons, List.append_assoc, List.singleton_append]
    congr 2
    omega
theorem list_back (d : Nat) (hB : Back d) (deep : Int) (bs rest : List UInt8) (l : List PObj) (k : Nat) (hs : ∀ o ∈ l, soundO d false o = true ∧ (depthO d o : Int) ≤ deep) (hl : l.length ≤ 65535)
    (h : bs.drop k = joinT (l.map (printO d)) ++ 93 :: rest) : ∃ f0, ∀ f, f0 ≤ f → listP f bs true deep k [] = .ok (.mk 6 0 [] [] l [], k + (joinT (l.map (printO d))).length + 1) := by
  match l with
  | [] => exact ⟨1, fun f hf => by
      obtain ⟨f, rfl⟩ : ∃ g, f = g + 1 := ⟨f - 1, by omega⟩
      rw [listP_end h]; simp [joinT]⟩
  | o :: todo =>
    have key : joinT ((o :: todo).map (printO d)) ++ 93 :: rest = printO d o ++ (tailT (todo.map (printO d)) ++ 93 :: rest) := by simp [joinT]
    rw [key] at h
    obtain ⟨ho, hd⟩ := hs o (by simp)
    obtain ⟨c, r, e, h1, h2, h3, _⟩ := first_obj d o ho
    obtain ⟨s1, _, s3⟩ := tail_ok d rest todo (fun x hx => (hs x (by simp [hx])).1)
    have hc : bs.drop k = c :: (r ++ (tailT (todo.map (printO d)) ++ 93 :: rest)) := by rw [h, e]; rfl
    have hk : skipF bs k = k := skip_none hc h1 h2
    obtain ⟨f1, hf1⟩ := hB o deep bs _ k ho hd h s1 (fun _ => s3)
    simp only [List.length_cons] at hl
    obtain ⟨f2, hf2⟩ := list_tail d hB deep bs rest todo ([] ++ [o]) (k + (printO d o).length) (fun x hx => hs x (by simp [hx])) (by simp; omega) (drop_app h)
    refine ⟨max f1 f2 + 1, fun f hf => ?_⟩
    obtain ⟨f, rfl⟩ : ∃ g, f = g + 1 := ⟨f - 1, by omega⟩
    rw [listP_one hk hc h3 (by simp) (hf1 f (by omega)), hf2 f (by omega)]
    simp only [joinT, List.map_cons, List.length_append, List.nil_append, List.singleton_append]
    congr 2
    omega
theorem pairsP_end {bs rest : List UInt8} {k f : Nat} {deep : Int} {keys : List (List UInt8)} {acc : List PObj} (h : bs.drop k = 32 :: 62 :: 62 :: rest) : pairsP (f + 1) bs true deep k keys acc = .ok (.mk 7 0 [] keys acc [], k + 3) := by
  have hs := skip_one h (by decide) (by decide)
  obtain ⟨_, h1⟩ := drop_get h
  obtain ⟨h2, h3⟩ := drop_get h1
  rw [pairsP, hs]
  simp only [h2]
  rw [if_pos (by decide)]
  simp only [(drop_get h3).1]
  rw [if_pos (by decide)]
theorem pairs_back (d : Nat) (hB : Back d) (deep : Int) (bs rest : List UInt8) : ∀ (todo : List PObj) (ks keys : List (List UInt8)) (acc : List PObj) (k : Nat), ks.length = todo.length → (∀ o ∈ todo, soundO d false o = true ∧ (depthO d o : Int) ≤ deep) →
    (∀ s ∈ ks, nameOk s = true) → (keys ++ ks).Nodup → acc.length + todo.length ≤ 65535 →
    bs.drop k = pairsT ks (todo.map (printO d)) ++ 32 :: 62 :: 62 :: rest → ∃ f0, ∀ f, f0 ≤ f → pairsP f bs true deep k keys acc = .ok (.mk 7 0 [] (keys ++ ks) (acc ++ todo) [], k + (pairsT ks (todo.map (printO d))).length + 3)
  | [], ks, keys, acc, k, hlen, _, _, _, _, h => by
    have hk : ks = [] := List.eq_nil_of_length_eq_zero hlen
    subst hk
    refine ⟨1, fun f hf => ?_⟩
    obtain ⟨f, rfl⟩ : ∃ g, f = g + 1 := ⟨f - 1, by omega⟩
    rw [pairsP_end h]; simp [pairsT]
  | o :: todo, ks, keys, acc, k, hlen, hs, hn, hnd, hl, h => by
    match ks, hlen with
    | s :: ks, hlen =>
      have key : pairsT (s :: ks) ((o :: todo).map (printO d)) ++ 32 :: 62 :: 62 :: rest = 32 :: 47 :: (s.flatMap nameC ++ 32 :: (printO d o ++ (pairsT ks (todo.map (printO d)) ++ 32 :: 62 :: 62 :: rest))) := by
        simp [pairsT, nameT]
      rw [key] at h
      obtain ⟨ho, hd⟩ := hs o (by simp)
      obtain ⟨c, r, e, h1, h2, h3, _⟩ := first_obj d o ho
      have hk : skipF bs k = k + 1 := skip_one h (by decide) (by decide)
      obtain ⟨_, g1⟩ := drop_get h
      obtain ⟨b1, g2⟩ := drop_get g1
      have hname := nameP_print g2 (stop32 _) (hn s (by simp))
      have g3 := drop_app g2
      have hk2 : skipF bs (k + 1 + 1 + (s.flatMap nameC).length) = k + 1 + 1 + (s.flatMap nameC).length + 1 := by rw [e] at g3; exact skip_one g3 h1 h2
      obtain ⟨_, g4⟩ := drop_get g3
      have hst : stopL (pairsT ks (todo.map (printO d)) ++ 32 :: 62 :: 62 :: rest) ∧ noRef (pairsT ks (todo.map (printO d)) ++ 32 :: 62 :: 62 :: rest) := by
        have h62 : ∀ (x : UInt8) (l : List UInt8), regB x = false → blankB x = false → x.toNat ≠ 37 → stopL (32 :: x :: l) ∧ noRef (32 :: x :: l) := fun x l q1 q2 q3 => ⟨stop32 _, by unfold noRef; rw [skL_one q2 q3, wdL_stop q1]; simp⟩
        match ks, todo with
        | [], _ => simp only [pairsT, List.nil_append]; exact h62 62 _ (by decide) (by decide) (by decide)
        | s2 :: ks2, [] => simp only [pairsT, List.map_nil, List.nil_append]; exact h62 62 _ (by decide) (by decide) (by decide)
        | s2 :: ks2, o2 :: todo2 => simp only [pairsT, List.map_cons, nameT, List.cons_append]; exact h62 47 _ (by decide) (by decide) (by decide)
      obtain ⟨f1, hf1⟩ := hB o deep bs _ _ ho hd g4 hst.1 (fun _ => hst.2)
      simp only [List.length_cons] at hl hlen
      have hin : ¬ s ∈ keys := by
        intro hm
        exact (List.nodup_append.1 hnd).2.2 s hm s (by simp) rfl
      obtain ⟨f2, hf2⟩ := pairs_back d hB deep bs rest todo ks (keys ++ [s]) (acc ++ [o]) (k + 1 + 1 + (s.flatMap nameC).length + 1 + (printO d o).length) (by omega) (fun x hx => hs x (by simp [hx])) (fun x hx => hn x (by simp [hx])) (by simpa using hnd) (by simp; omega) (drop_app g4)
      refine ⟨max f1 f2 + 1, fun f hf => ?_⟩
      obtain ⟨f, rfl⟩ : ∃ g, f = g + 1 := ⟨f - 1, by omega⟩
      rw [pairsP, hk]
      simp only [b1]
      rw [if_neg (by decide), if_pos (by decide), hname]
      simp only
      rw [if_neg hin, if_neg (by omega), hk2]
      have hb : bs[k + 1 + 1 + (s.flatMap nameC).length + 1]? = some c := (drop_get (show bs.drop _ = c :: (r ++ _) by rw [g4, e]; rfl)).1
      simp only [hb]
      rw [hf1 f (by omega)]
      simp only
      rw [hf2 f (by omega)]
      simp only [pairsT, nameT, List.map_cons, List.length_append, List.length_cons, List.append_assoc, List.singleton_append]
      congr 2
      omega
theorem foldl_max (l : List Nat) : ∀ m, m ≤ l.foldl max m ∧ ∀ x ∈ l, x ≤ l.foldl max m := by
  induction l with
  | nil => intro m; simp
  | cons a l ih =>
    intro m
    rw [List.foldl_cons]
    obtain ⟨h1, h2⟩ := ih (max m a)
    refine ⟨by omega, fun x hx => ?_⟩
    rcases List.mem_cons.1 hx with rfl | hx
    · omega
    · exact h2 x hx
theorem maxL_ge {l : List Nat} {x : Nat} (h : x ∈ l) : x ≤ maxL l := (foldl_max l 0).2 x h
theorem foldl_max_mem (l : List Nat) : ∀ m, l.foldl max m = m ∨ l.foldl max m ∈ l := by
  induction l with
  | nil => intro m; simp
  | cons a l ih =>
    intro m
    rw [List.foldl_cons]
    rcases ih (max m a) with h | h
    · rw [h]
      rcases Nat.le_total m a with h1 | h1
      · right; rw [Nat.max_eq_right h1]; simp
      · left; rw [Nat.max_eq_left h1]
    · right; simp [h]
theorem maxL_mem {l : List Nat} (h : 0 < maxL l) : maxL l ∈ l := by
  rcases foldl_max_mem l 0 with h1 | h1
  · unfold maxL at h; omega
  · exact h1
/-- What a list of objects is made of. -/
theorem sound6 {b : Bool} {sub : PObj → Bool} {n : Int} {t : List UInt8} {keys : List (List UInt8)} {list : List PObj} {data : List UInt8} (hs : objS b sub false (.mk 6 n t keys list data) = true) :
    b = true ∧ n = 0 ∧ t = [] ∧ keys = [] ∧ data = [] ∧ list.length ≤ 65535 ∧ ∀ o ∈ list, sub o = true := by
  unfold objS at hs
  simp only [show ¬ (6 : Int) = 0 by decide, show ¬ (6 : Int) = 1 by decide, show ¬ (6 : Int) = 2 by decide, show ¬ (6 : Int) = 3 by decide, show ¬ (6 : Int) = 4 by decide, show ¬ (6 : Int) = 5 by decide, show ¬ (6 : Int) = 8 by decide, or_self, if_false, if_true,
    Bool.and_eq_true, decide_eq_true_eq, List.all_eq_true] at hs
  obtain ⟨⟨⟨h1, h2, h3, h4, h5⟩, h6⟩, h7⟩ := hs
  exact ⟨h1, h2, h3, h4, h5, h6, h7⟩
theorem sound7 {b : Bool} {sub : PObj → Bool} {n : Int} {t : List UInt8} {keys : List (List UInt8)} {list : List PObj} {data : List UInt8} (hs : objS b sub false (.mk 7 n t keys list data) = true) :
    b = true ∧ n = 0 ∧ t = [] ∧ keys.length = list.length ∧ data = [] ∧ (∀ s ∈ keys, nameOk s = true) ∧ keys.Nodup ∧ list.length ≤ 65535 ∧ ∀ o ∈ list, sub o = true := by
  unfold objS at hs
  simp only [show ¬ (7 : Int) = 0 by decide, show ¬ (7 : Int) = 1 by decide, show ¬ (7 : Int) = 2 by decide, show ¬ (7 : Int) = 3 by decide, show ¬ (7 : Int) = 4 by decide, show ¬ (7 : Int) = 5 by decide, show ¬ (7 : Int) = 8 by decide, show ¬ (7 : Int) = 6 by decide, or_self, if_false, if_true, true_or,
    Bool.and_eq_true, decide_eq_true_eq, List.all_eq_true, keysOk] at hs
  obtain ⟨⟨⟨⟨⟨h1, h2, h3, h4⟩, h5⟩, h6, h7⟩, h8⟩, h9⟩ := hs
  exact ⟨h1, h2, h3, h4, h5, fun s hs => (h6 s hs).1, h7, h8, h9⟩
theorem back_any : ∀ d, Back d := by
  intro d
  induction d with
  | zero =>
    intro o deep bs rest k hs hd h hst hnr
    rw [soundO_eq] at hs
    rw [printO_eq] at h ⊢
    have h6 : o.kind ≠ 6 := by
      obtain ⟨kd, n, t, keys, list, data⟩ := o
      rintro rfl
      have := (sound6 hs).1
      simp at this
    have h7 : o.kind ≠ 7 := by
      obtain ⟨kd, n, t, keys, list, data⟩ := o
      rintro rfl
      have := (sound7 hs).1
      simp at this
    refine ⟨1, fun f hf => ?_⟩
    obtain ⟨f, rfl⟩ : ∃ g, f = g + 1 := ⟨f - 1, by omega⟩
    exact back_simple _ _ _ o hs h6 h7 deep bs rest k f h hst hnr
  | succ d ih =>
    intro o deep bs rest k hs hd h hst hnr
    rw [soundO_eq] at hs
    rw [printO_eq] at h ⊢
    by_cases h6 : o.kind = 6
    · obtain ⟨kd, n, t, keys, list, data⟩ := o
      simp only [PObj.kind] at h6
      subst h6
      obtain ⟨_, rfl, rfl, rfl, rfl, hl, hall⟩ := sound6 hs
      simp only [depthO, true_or, if_true] at hd
      have hT : objT (subT (d + 1)) (.mk 6 0 [] [] list []) = 91 :: (joinT (list.map (printO d)) ++ [93]) := rfl
      rw [hT] at h ⊢
      obtain ⟨g1, g2⟩ := drop_get (show bs.drop k = 91 :: (joinT (list.map (printO d)) ++ [93] ++ rest) from h)
      rw [List.append_assoc] at g2
      obtain ⟨f1, hf1⟩ := list_back d ih (deep - 1) bs rest list (k + 1) (fun o ho => ⟨hall o ho, by have := maxL_ge (List.mem_map_of_mem (f := depthO d) ho); omega⟩) hl g2
      refine ⟨f1 + 1, fun f hf => ?_⟩
      obtain ⟨f, rfl⟩ : ∃ g, f = g + 1 := ⟨f - 1, by omega⟩
      rw [objP]
      simp only [g1]
      rw [if_neg (by decide), if_pos (by decide), if_neg (by omega), hf1 f (by omega)]
      simp only [List.length_cons, List.length_append, List.length_nil]
      congr 2
      omega
    by_cases h7 : o.kind = 7
    · obtain ⟨kd, n, t, keys, list, data⟩ := o
      simp only [PObj.kind] at h7
      subst h7
      obtain ⟨_, rfl, rfl, hlen, rfl, hn, hnd, hl, hall⟩ := sound7 hs
      simp only [depthO, or_true, if_true] at hd
      have hT : objT (subT (d + 1)) (.mk 7 0 [] keys list []) = 60 :: 60 :: (pairsT keys (list.map (printO d)) ++ [32, 62, 62]) := rfl
      rw [hT] at h ⊢
      obtain ⟨g1, g2⟩ := drop_get (show bs.drop k = 60 :: 60 :: (pairsT keys (list.map (printO d)) ++ [32, 62, 62] ++ rest) from h)
      obtain ⟨g3, g4⟩ := drop_get g2
      rw [List.append_assoc] at g4
      obtain ⟨f1, hf1⟩ := pairs_back d ih (deep - 1) bs rest list keys [] [] (k + 1 + 1) hlen (fun o ho => ⟨hall o ho, by have := maxL_ge (List.mem_map_of_mem (f := depthO d) ho); omega⟩) hn (by simpa using hnd) (by simpa using hl) g4
      refine ⟨f1 + 1, fun f hf => ?_⟩
      obtain ⟨f, rfl⟩ : ∃ g, f = g + 1 := ⟨f - 1, by omega⟩
      rw [objP]
      simp only [g1]
      rw [if_neg (by decide), if_neg (by decide), if_neg (by decide), if_pos (by decide)]
      simp only [g3]
      rw [if_pos (by decide), if_neg (by omega), hf1 f (by omega)]
      simp only [List.length_cons, List.length_append, List.length_nil, List.nil_append]
      congr 2
      omega
    refine ⟨1, fun f hf => ?_⟩
    obtain ⟨f, rfl⟩ : ∃ g, f = g + 1 := ⟨f - 1, by omega⟩
    exact back_simple _ _ _ o hs h6 h7 deep bs rest k f h hst hnr
/-- Nested too deep. -/
def Deep (d : Nat) : Prop := ∀ (o : PObj) (deep : Int) (bs rest : List UInt8) (k : Nat), soundO d false o = true → 0 ≤ deep → deep < (depthO d o : Int) → bs.drop k = printO d o ++ rest → stopL rest →
  ∃ f0, ∀ f, f0 ≤ f → objP f bs true deep k = .error 25
theorem list_deep (d : Nat) (hB : Back d) (hD : Deep d) (deep : Int) (h0 : 0 ≤ deep) (bs rest : List UInt8) : ∀ (todo acc : List PObj) (k j : Nat), (∀ o ∈ todo, soundO d false o = true) → acc.length + todo.length ≤ 65535 → (∃ o ∈ todo, deep < (depthO d o : Int)) →
    skipF bs k = j → bs.drop j = joinT (todo.map (printO d)) ++ 93 :: rest → ∃ f0, ∀ f, f0 ≤ f → listP f bs true deep k acc = .error 25
  | [], _, _, _, _, _, ⟨_, h, _⟩, _, _ => by cases h
  | o :: todo, acc, k, j, hs, hl, hex, hk, h => by
    have key : joinT ((o :: todo).map (printO d)) ++ 93 :: rest = printO d o ++ (tailT (todo.map (printO d)) ++ 93 :: rest) := by simp [joinT]
    rw [key] at h
    have ho := hs o (by simp)
    obtain ⟨c, r, e, h1, h2, h3, _⟩ := first_obj d o ho
    obtain ⟨s1, _, s3⟩ := tail_ok d rest todo (fun x hx => hs x (by simp [hx]))
    have hc : bs.drop j = c :: (r ++ (tailT (todo.map (printO d)) ++ 93 :: rest)) := by rw [h, e]; rfl
    simp only [List.length_cons] at hl
    by_cases hd : deep < (depthO d o : Int)
    · obtain ⟨f1, hf1⟩ := hD o deep bs _ j ho h0 hd h s1
      refine ⟨f1 + 1, fun f hf => ?_⟩
      obtain ⟨f, rfl⟩ : ∃ g, f = g + 1 := ⟨f - 1, by omega⟩
      rw [listP, hk]
      simp only [(drop_get hc).1]
      rw [if_neg h3, if_neg (by omega), hf1 f (by omega)]
    · obtain ⟨f1, hf1⟩ := hB o deep bs _ j ho (by omega) h s1 (fun _ => s3)
      have hd2 := drop_app h
      match todo with
      | [] =>
        obtain ⟨x, hx, hxd⟩ := hex
        simp at hx
        subst hx
        exact absurd hxd hd
      | o2 :: todo2 =>
        obtain ⟨c2, r2, e2, q1, q2, q3, _⟩ := first_obj d o2 (hs o2 (by simp))
        have key2 : tailT ((o2 :: todo2).map (printO d)) ++ 93 :: rest = 32 :: (joinT ((o2 :: todo2).map (printO d)) ++ 93 :: rest) := by simp [joinT, tailT]
        rw [key2] at hd2
        have hk2 : skipF bs (j + (printO d o).length) = j + (printO d o).length + 1 := by
          have : joinT ((o2 :: todo2).map (printO d)) ++ 93 :: rest = c2 :: (r2 ++ (tailT (todo2.map (printO d)) ++ 93 :: rest)) := by simp [joinT, e2]
          rw [this] at hd2
          exact skip_one hd2 q1 q2
        obtain ⟨f2, hf2⟩ := list_deep d hB hD deep h0 bs rest (o2 :: todo2) (acc ++ [o]) _ _ (fun x hx => hs x (List.mem_cons_of_mem _ hx)) (by simp at hl ⊢; omega) (by
          obtain ⟨x, hx, hxd⟩ := hex
          rcases List.mem_cons.1 hx with rfl | hx
          · exact absurd hxd hd
          · exact ⟨x, hx, hxd⟩) hk2 (drop_get hd2).2
        refine ⟨max f1 f2 + 1, fun f hf => ?_⟩
        obtain ⟨f, rfl⟩ : ∃ g, f = g + 1 := ⟨f - 1, by omega⟩
        rw [listP_one hk hc h3 (by omega) (hf1 f (by omega)), hf2 f (by omega)]
theorem pairs_deep (d : Nat) (hB : Back d) (hD : Deep d) (deep : Int) (h0 : 0 ≤ deep) (bs rest : List UInt8) : ∀ (todo : List PObj) (ks keys : List (List UInt8)) (acc : List PObj) (k : Nat), ks.length = todo.length → (∀ o ∈ todo, soundO d false o = true) →
    (∀ s ∈ ks, nameOk s = true) → (keys ++ ks).Nodup → acc.length + todo.length ≤ 65535 → (∃ o ∈ todo, deep < (depthO d o : Int)) →
    bs.drop k = pairsT ks (todo.map (printO d)) ++ 32 :: 62 :: 62 :: rest → ∃ f0, ∀ f, f0 ≤ f → pairsP f bs true deep k keys acc = .error 25
  | [], _, _, _, _, _, _, _, _, _, ⟨_, h, _⟩, _ => by cases h
  | o :: todo, ks, keys, acc, k, hlen, hs, hn, hnd, hl, hex, h => by
    match ks, hlen with
    | s :: ks, hlen =>
      have key : pairsT (s :: ks) ((o :: todo).map (printO d)) ++ 32 :: 62 :: 62 :: rest = 32 :: 47 :: (s.flatMap nameC ++ 32 :: (printO d o ++ (pairsT ks (todo.map (printO d)) ++ 32 :: 62 :: 62 :: rest))) := by
        simp [pairsT, nameT]
      rw [key] at h
      have ho := hs o (by simp)
      obtain ⟨c, r, e, h1, h2, h3, _⟩ := first_obj d o ho
      have hk : skipF bs k = k + 1 := skip_one h (by decide) (by decide)
      obtain ⟨_, g1⟩ := drop_get h
      obtain ⟨b1, g2⟩ := drop_get g1
      have hname := nameP_print g2 (stop32 _) (hn s (by simp))
      have g3 := drop_app g2
      have hk2 : skipF bs (k + 1 + 1 + (s.flatMap nameC).length) = k + 1 + 1 + (s.flatMap nameC).length + 1 := by rw [e] at g3; exact skip_one g3 h1 h2
      obtain ⟨_, g4⟩ := drop_get g3
      have hst : stopL (pairsT ks (todo.map (printO d)) ++ 32 :: 62 :: 62 :: rest) ∧ noRef (pairsT ks (todo.map (printO d)) ++ 32 :: 62 :: 62 :: rest) := by
        have h62 : ∀ (x : UInt8) (l : List UInt8), regB x = false → blankB x = false → x.toNat ≠ 37 → stopL (32 :: x :: l) ∧ noRef (32 :: x :: l) := fun x l q1 q2 q3 => ⟨stop32 _, by unfold noRef; rw [skL_one q2 q3, wdL_stop q1]; simp⟩
        match ks, todo with
        | [], _ => simp only [pairsT, List.nil_append]; exact h62 62 _ (by decide) (by decide) (by decide)
        | s2 :: ks2, [] => simp only [pairsT, List.map_nil, List.nil_append]; exact h62 62 _ (by decide) (by decide) (by decide)
        | s2 :: ks2, o2 :: todo2 => simp only [pairsT, List.map_cons, nameT, List.cons_append]; exact h62 47 _ (by decide) (by decide) (by decide)
      simp only [List.length_cons] at hl hlen
      have hin : ¬ s ∈ keys := by
        intro hm
        exact (List.nodup_append.1 hnd).2.2 s hm s (by simp) rfl
      have hb : bs[k + 1 + 1 + (s.flatMap nameC).length + 1]? = some c := (drop_get (show bs.drop _ = c :: (r ++ _) by rw [g4, e]; rfl)).1
      by_cases hd : deep < (depthO d o : Int)
      · obtain ⟨f1, hf1⟩ := hD o deep bs _ _ ho h0 hd g4 hst.1
        refine ⟨f1 + 1, fun f hf => ?_⟩
        obtain ⟨f, rfl⟩ : ∃ g, f = g + 1 := ⟨f - 1, by omega⟩
        rw [pairsP, hk]
        simp only [b1]
        rw [if_neg (by decide), if_pos (by decide), hname]
        simp only
        rw [if_neg hin, if_neg (by omega), hk2]
        simp only [hb]
        rw [hf1 f (by omega)]
      · obtain ⟨f1, hf1⟩ := hB o deep bs _ _ ho (by omega) g4 hst.1 (fun _ => hst.2)
        obtain ⟨f2, hf2⟩ := pairs_deep d hB hD deep h0 bs rest todo ks (keys ++ [s]) (acc ++ [o]) (k + 1 + 1 + (s.flatMap nameC).length + 1 + (printO d o).length) (by omega) (fun x hx => hs x (by simp [hx])) (fun x hx => hn x (by simp [hx])) (by simpa using hnd) (by simp; omega) (by
          obtain ⟨x, hx, hxd⟩ := hex
          rcases List.mem_cons.1 hx with rfl | hx
          · exact absurd hxd hd
          · exact ⟨x, hx, hxd⟩) (drop_app g4)
        refine ⟨max f1 f2 + 1, fun f hf => ?_⟩
        obtain ⟨f, rfl⟩ : ∃ g, f = g + 1 := ⟨f - 1, by omega⟩
        rw [pairsP, hk]
        simp only [b1]
        rw [if_neg (by decide), if_pos (by decide), hname]
        simp only
        rw [if_neg hin, if_neg (by omega), hk2]
        simp only [hb]
        rw [hf1 f (by omega)]
        simp only
        rw [hf2 f (by omega)]
theorem deep_any : ∀ d, Deep d := by
  intro d
  induction d with
  | zero =>
    intro o deep bs rest k hs h0 hd h hst
    simp only [depthO] at hd
    omega
  | succ d ih =>
    intro o deep bs rest k hs h0 hd h hst
    rw [soundO_eq] at hs
    rw [printO_eq] at h
    obtain ⟨kd, n, t, keys, list, data⟩ := o
    simp only [depthO] at hd
    by_cases hk : kd = 6 ∨ kd = 7
    · rw [if_pos hk] at hd
      rcases hk with rfl | rfl
      · obtain ⟨_, rfl, rfl, rfl, rfl, hl, hall⟩ := sound6 hs
        have hT : objT (subT (d + 1)) (.mk 6 0 [] [] list []) = 91 :: (joinT (list.map (printO d)) ++ [93]) := rfl
        rw [hT] at h
        obtain ⟨g1, g2⟩ := drop_get (show bs.drop k = 91 :: (joinT (list.map (printO d)) ++ [93] ++ rest) from h)
        rw [List.append_assoc] at g2
        by_cases hdp : deep < 1
        · refine ⟨1, fun f hf => ?_⟩
          obtain ⟨f, rfl⟩ : ∃ g, f = g + 1 := ⟨f - 1, by omega⟩
          rw [objP]
          simp only [g1]
          rw [if_neg (by decide), if_pos (by decide), if_pos hdp]
        · have hm := maxL_mem (l := list.map (depthO d)) (by omega)
          obtain ⟨x, hx, hxd⟩ := List.mem_map.1 hm
          have hsk : skipF bs (k + 1) = k + 1 := by
            match list, hx with
            | o :: todo, _ =>
              obtain ⟨c, r, e, h1, h2, h3, _⟩ := first_obj d o (hall o (by simp))
              exact skip_none (show bs.drop (k + 1) = c :: (r ++ tailT (todo.map (printO d)) ++ [93] ++ rest) by rw [g2]; simp [joinT, e]) h1 h2
          obtain ⟨f1, hf1⟩ := list_deep d (back_any d) ih (deep - 1) (by omega) bs rest list [] (k + 1) (k + 1) hall (by simpa using hl) ⟨x, hx, by omega⟩ hsk g2
          refine ⟨f1 + 1, fun f hf => ?_⟩
          obtain ⟨f, rfl⟩ : ∃ g, f = g + 1 := ⟨f - 1, by omega⟩
          rw [objP]
          simp only [g1]
          rw [if_neg (by decide), if_pos (by decide), if_neg hdp, hf1 f (by omega)]
      · obtain ⟨_, rfl, rfl, hlen, rfl, hn, hnd, hl, hall⟩ := sound7 hs
        have hT : objT (subT (d + 1)) (.mk 7 0 [] keys list []) = 60 :: 60 :: (pairsT keys (list.map (printO d)) ++ [32, 62, 62]) := rfl
        rw [hT] at h
        obtain ⟨g1, g2⟩ := drop_get (show bs.drop k = 60 :: 60 :: (pairsT keys (list.map (printO d)) ++ [32, 62, 62] ++ rest) from h)
        obtain ⟨g3, g4⟩ := drop_get g2
        rw [List.append_assoc] at g4
        by_cases hdp : deep < 1
        · refine ⟨1, fun f hf => ?_⟩
          obtain ⟨f, rfl⟩ : ∃ g, f = g + 1 := ⟨f - 1, by omega⟩
          rw [objP]
          simp only [g1]
          rw [if_neg (by decide), if_neg (by decide), if_neg (by decide), if_pos (by decide)]
          simp only [g3]
          rw [if_pos (by decide), if_pos hdp]
        · have hm := maxL_mem (l := list.map (depthO d)) (by omega)
          obtain ⟨x, hx, hxd⟩ := List.mem_map.1 hm
          obtain ⟨f1, hf1⟩ := pairs_deep d (back_any d) ih (deep - 1) (by omega) bs rest list keys [] [] (k + 1 + 1) hlen hall hn (by simpa using hnd) (by simpa using hl) ⟨x, hx, by omega⟩ g4
          refine ⟨f1 + 1, fun f hf => ?_⟩
          obtain ⟨f, rfl⟩ : ∃ g, f = g + 1 := ⟨f - 1, by omega⟩
          rw [objP]
          simp only [g1]
          rw [if_neg (by decide), if_neg (by decide), if_neg (by decide), if_pos (by decide)]
          simp only [g3]
          rw [if_pos (by decide), if_neg hdp, hf1 f (by omega)]
    · rw [if_neg hk] at hd
      omega
end Go.Proofs.YtdjhjfpeckndkaaGreatDoor
namespace Go.Proofs.YtdjhjfpeckndkaaGreatDoor
theorem flatMap_le {α : Type} (f : α → List UInt8) (k : Nat) (h : ∀ a, (f a).length ≤ k) : ∀ l : List α, (l.flatMap f).length ≤ k * l.length
  | [] => by simp
  | a :: l => by
    have h1 := flatMap_le f k h l
    have h2 := h a
    simp only [List.flatMap_cons, List.length_append, List.length_cons, Nat.mul_add]
    omega
theorem nameT_len (s : List UInt8) : (nameT s).length ≤ 1 + 3 * s.length := by
  have := flatMap_le nameC 3 (fun c => by unfold nameC; split <;> simp) s
  unfold nameT
  rw [List.length_cons]; omega
theorem textT_len (s : List UInt8) : (textT s).length ≤ 2 + 4 * s.length := by
  have := flatMap_le textC 4 (fun c => by unfold textC; split <;> (try split) <;> simp) s
  unfold textT
  simp only [List.length_append, List.length_cons, List.length_nil]; omega
theorem realT_len (n : Int) : (realT n).length ≤ 25 := by
  have := printT_len n
  unfold realT
  generalize (if fitsI n = true then n else 0) = m
  split
  · simp only [List.length_append, List.length_cons, List.length_nil]; omega
  · omega
theorem sum_len (txt : PObj → List UInt8) : ∀ l : List PObj, (∀ o ∈ l, (txt o).length + 1 ≤ 4 * sizeO o) → (tailT (l.map txt)).length ≤ 4 * sizeL l
  | [], _ => by simp [tailT]
  | o :: l, h => by
    have h1 := sum_len txt l (fun x hx => h x (by simp [hx]))
    have h2 := h o (by simp)
    unfold tailT at h1 ⊢
    simp only [List.map_cons, List.flatMap_cons, List.length_append, List.length_cons, sizeL]
    omega
theorem join_len (txt : PObj → List UInt8) (l : List PObj) (h : ∀ o ∈ l, (txt o).length + 1 ≤ 4 * sizeO o) : (joinT (l.map txt)).length ≤ 4 * sizeL l := by
  have := sum_len txt l h
  match l with
  | [] => simp [joinT]
  | o :: l =>
    unfold tailT at this
    simp only [List.map_cons, List.flatMap_cons, List.length_append, List.length_cons] at this
    simp only [List.map_cons, joinT, List.length_append, tailT]
    omega
theorem pairs_len (txt : PObj → List UInt8) : ∀ (l : List PObj) (ks : List (List UInt8)), (∀ o ∈ l, (txt o).length + 1 ≤ 4 * sizeO o) → (pairsT ks (l.map txt)).length ≤ 4 * (ks.map (fun s => s.length + 1)).sum + 4 * sizeL l
  | [], ks, _ => by cases ks <;> simp [pairsT]
  | o :: l, [], _ => by simp [pairsT]
  | o :: l, k :: ks, h => by
    have h1 := pairs_len txt l ks (fun x hx => h x (by simp [hx]))
    have h2 := h o (by simp)
    have h3 := nameT_len k
    simp only [List.map_cons, pairsT, List.length_append, List.length_cons, sizeL, List.sum_cons]
    omega
theorem print_len : ∀ (d : Nat) (o : PObj), soundO d false o = true → (printO d o).length + 1 ≤ 4 * sizeO o := by
  intro d
  induction d with
  | zero =>
    intro o hs
    rw [soundO_eq] at hs
    rw [printO_eq]
    obtain ⟨kd, n, t, keys, list, data⟩ := o
    exact print_step _ _ _ hs (fun o _ h => by cases h)
  | succ d ih =>
    intro o hs
    rw [soundO_eq] at hs
    rw [printO_eq]
    obtain ⟨kd, n, t, keys, list, data⟩ := o
    exact print_step _ _ _ hs (fun o _ h => ih o h)
where
  print_step (b : Bool) (sub : PObj → Bool) (txt : PObj → List UInt8) {kd n : Int} {t : List UInt8} {keys : List (List UInt8)} {list : List PObj} {data : List UInt8} (hs : objS b sub false (.mk kd n t keys list data) = true)
      (h : ∀ o ∈ list, sub o = true → (txt o).length + 1 ≤ 4 * sizeO o) : (objT txt (.mk kd n t keys list data)).length + 1 ≤ 4 * sizeO (.mk kd n t keys list data) := by
    unfold objT
    dsimp only
    simp only [sizeO]
    by_cases k0 : kd = 0
    · rw [if_pos k0]; simp only [nullW, List.length_cons, List.length_nil]; omega
    rw [if_neg k0]
    by_cases k1 : kd = 1
    · rw [if_pos k1]; split <;> simp only [trueW, falseW, List.length_cons, List.length_nil] <;> omega
    rw [if_neg k1]
    by_cases k2 : kd = 2
    · rw [if_pos k2]
      have hf : fitsI n = true := by
        unfold objS at hs; dsimp only at hs
        rw [if_neg k0, if_neg k1, if_pos (.inl k2)] at hs
        simp only [Bool.and_eq_true] at hs
        exact hs.1.1.1
      have := decT_len n hf
      omega
    rw [if_neg k2]
    by_cases k3 : kd = 3
    · rw [if_pos k3]
      have := realT_len n
      omega
    rw [if_neg k3]
    by_cases k4 : kd = 4
    · rw [if_pos k4]
      have := nameT_len t
      omega
    rw [if_neg k4]
    by_cases k5 : kd = 5
    · rw [if_pos k5]
      have := textT_len t
      omega
    rw [if_neg k5]
    by_cases k8 : kd = 8
    · rw [if_pos k8]
      have hf : fitsI n = true := by
        unfold objS at hs; dsimp only at hs
        rw [if_neg k0, if_neg k1, if_neg (by omega), if_neg k4, if_neg k5, if_pos k8] at hs
        simp only [Bool.and_eq_true, decide_eq_true_eq] at hs
        unfold fitsI; simp; omega
      have := decT_len n hf
      simp only [List.length_append, List.length_cons, List.length_nil]
      omega
    rw [if_neg k8]
    by_cases k6 : kd = 6
    · rw [if_pos k6]
      subst k6
      obtain ⟨_, _, _, _, _, _, hall⟩ := sound6 hs
      have := join_len txt list (fun o ho => h o ho (hall o ho))
      simp only [List.length_append, List.length_cons, List.length_nil]
      omega
    rw [if_neg k6]
    by_cases k7 : kd = 7
    · rw [if_pos k7]
      subst k7
      obtain ⟨_, _, _, _, _, _, _, _, hall⟩ := sound7 hs
      have := pairs_len txt list keys (fun o ho => h o ho (hall o ho))
      simp only [List.length_append, List.length_cons, List.length_nil]
      omega
    · exfalso
      unfold objS at hs; dsimp only at hs
      rw [if_neg k0, if_neg k1, if_neg (by omega), if_neg k4, if_neg k5, if_neg k8, if_neg k6] at hs
      by_cases k9 : kd = 9
      · subst k9; simp at hs
      · rw [if_neg (by omega)] at hs; cases hs
end Go.Proofs.YtdjhjfpeckndkaaGreatDoor
namespace Go.Proofs.YtdjhjfpeckndkaaGreatDoor
theorem soundO_nostream (d : Nat) (o : PObj) (h : soundO d true o = true) (hk : o.kind ≠ 9) : soundO d false o = true := by
  rw [soundO_eq] at h ⊢
  obtain ⟨kd, n, t, keys, list, data⟩ := o
  simp only [PObj.kind] at hk
  unfold objS at h ⊢
  dsimp only at h ⊢
  by_cases h7 : kd = 7
  · subst h7
    simpa using h
  · have h79 : ¬ (kd = 7 ∨ kd = 9) := fun e => e.elim h7 hk
    simp only [if_neg h79] at h ⊢
    exact h
theorem depth_le' : ∀ (d : Nat) (o : PObj), depthO d o ≤ d
  | 0, o => by simp [depthO]
  | d + 1, .mk k n t keys list data => by
    simp only [depthO]
    split
    · have : maxL (list.map (depthO d)) ≤ d := by
        rcases Nat.eq_zero_or_pos (maxL (list.map (depthO d))) with h | h
        · omega
        · obtain ⟨x, _, hx⟩ := List.mem_map.1 (maxL_mem h)
          have := depth_le' d x
          omega
      omega
    · omega
section
variable {o : PObj} (hs : soundO 32 false o = true)
include hs
theorem print_first : ∃ c r, printO 32 o = c :: r ∧ blankB c = false ∧ c.toNat ≠ 37 := by
  obtain ⟨c, r, e, h1, h2, _⟩ := first_obj 32 o hs
  exact ⟨c, r, e, h1, h2⟩
theorem back_skip (a rest : List UInt8) : skipF (a ++ printO 32 o ++ rest) a.length = a.length ∧ a.length < (a ++ printO 32 o ++ rest).length := by
  obtain ⟨c, r, e, h1, h2⟩ := print_first hs
  have hd : (a ++ printO 32 o ++ rest).drop a.length = c :: (r ++ rest) := by rw [List.append_assoc, List.drop_left, e]; rfl
  exact ⟨skip_none hd h1 h2, by rw [e]; simp⟩
/-- Whatever surrounds it: the object; or, at a whole number, a reference, and then a nought follows. -/
theorem back_main (a b : List UInt8) : (∃ f, objP f (a ++ printO 32 o ++ ([32] ++ b)) true 32 a.length = .ok (o, a.length + (printO 32 o).length)) ∨
    (o.kind = 2 ∧ wordS b (skipF b 0) = [48] ∧ ∃ f m j, objP f (a ++ printO 32 o ++ ([32] ++ b)) true 32 a.length = .ok (simpleO 8 m [], j)) := by
  have hd : (a ++ printO 32 o ++ ([32] ++ b)).drop a.length = printO 32 o ++ (32 :: b) := by rw [List.append_assoc, List.drop_left]; rfl
  have hdep := depth_le' 32 o
  by_cases hn : o.kind = 2 → noRef (32 :: b)
  · obtain ⟨f0, hf⟩ := back_any 32 o 32 _ _ a.length hs (by omega) hd (stop32 b) hn
    exact .inl ⟨f0, hf f0 (Nat.le_refl _)⟩
  · obtain ⟨hk, hr⟩ := Classical.not_imp.1 hn
    obtain ⟨kd, n, t, keys, list, data⟩ := o
    simp only [PObj.kind] at hk
    subst hk
    have hs' := hs
    rw [soundO_eq] at hs'
    unfold objS at hs'
    simp only [show ¬ (2 : Int) = 0 by decide, show ¬ (2 : Int) = 1 by decide, if_false, true_or, if_true, Bool.and_eq_true, decide_eq_true_eq, List.isEmpty_iff] at hs'
    obtain ⟨⟨⟨hf, rfl, rfl⟩, rfl⟩, rfl⟩ := hs'
    have hp : printO 32 (.mk 2 n [] [] [] []) = decT n := by rw [printO_eq]; rfl
    rw [hp] at hd ⊢
    obtain ⟨o1, o2, o3⟩ := decT_num n hf
    have hst := stop32 b
    cases hrf : refP (a ++ decT n ++ ([32] ++ b)) true (a.length + (decT n).length) (decT n) with
    | none =>
      have := objP_num (f := 0) (deep := 32) hd (decT_ne n) (decT_numC n) hst hrf o1
      rw [o2, o3] at this
      exact .inl ⟨1, this⟩
    | some mj =>
      obtain ⟨m, j⟩ := mj
      obtain ⟨c, r, hcr, hc⟩ := num_cons (decT_ne n) (decT_numC n)
      obtain ⟨a1, a2, a3, a4, _⟩ := numC_first hc
      obtain ⟨n1, n2, n3⟩ := num_word (decT_numC n)
      obtain ⟨w1, w2, w3⟩ := word_at hd (num_reg _ (decT_numC n)) hst
      have hg := (drop_get (show (a ++ decT n ++ ([32] ++ b)).drop a.length = c :: (r ++ (32 :: b)) by rw [hd, hcr]; rfl)).1
      refine .inr ⟨rfl, ?_, 1, m, j, ?_⟩
      · have h1 : wdL (skL (32 :: b)) = [48] := by
          have : ¬ ¬ (wdL (skL (32 :: b)) = [48] ∧ wdL (skL (afL (skL (32 :: b)))) = [82]) := hr
          exact (Classical.not_not.1 this).1
        have h2 : skL (32 :: b) = skL b := by
          unfold skL
          have h32 : blankB 32 = true := by decide
          simp only [skipN, h32, if_true]
          rw [Nat.add_comm]; rfl
        rw [wordS_L, skip_drop, List.drop_zero, ← h2]
        exact h1
      · have hb : wordBad (a ++ decT n ++ ([32] ++ b)) true a.length = false := by
          unfold wordBad
          simp only
          rw [w1, num_bad _ (decT_numC n)]; simp
        have hw : wordO (a ++ decT n ++ ([32] ++ b)) true a.length = (some (simpleO 8 m []), j) := by
          unfold wordO
          simp only
          rw [w1, w2, if_neg n1, if_neg n2, if_neg n3, hrf]
        rw [objP]
        simp only [hg]
        rw [if_neg a1, if_neg a2, if_neg a3, if_neg a4, hb, hw]
        simp
theorem back_own : ∃ f, objP f (printO 32 o) true (depthO 32 o) 0 = .ok (o, (printO 32 o).length) := by
  obtain ⟨f0, hf⟩ := back_any 32 o (depthO 32 o) (printO 32 o) [] 0 hs (by omega) (by simp) (.inl rfl) (fun _ => by
    unfold noRef skL wdL; simp [skipN])
  have := hf f0 (Nat.le_refl _)
  rw [Nat.zero_add] at this
  exact ⟨f0, this⟩
theorem back_deep (h : 0 < depthO 32 o) : ∃ f, objP f (printO 32 o) true ((depthO 32 o : Int) - 1) 0 = .error 25 := by
  obtain ⟨f0, hf⟩ := deep_any 32 o ((depthO 32 o : Int) - 1) (printO 32 o) [] 0 hs (by omega) (by omega) (by simp) (.inl rfl)
  exact ⟨f0, hf f0 (Nat.le_refl _)⟩
theorem back_flat (h : depthO 32 o = 0) : ∃ f, objP f (printO 32 o) true ((depthO 32 o : Int) - 1) 0 = .ok (o, (printO 32 o).length) := by
  have hk : o.kind ≠ 6 ∧ o.kind ≠ 7 := by
    obtain ⟨kd, n, t, keys, list, data⟩ := o
    simp only [depthO] at h
    simp only [PObj.kind]
    split at h
    · omega
    · rename_i h1; exact ⟨fun e => h1 (.inl e), fun e => h1 (.inr e)⟩
  have hs' := hs
  rw [soundO_eq] at hs'
  have := back_simple _ _ (subT 32) o hs' hk.1 hk.2 ((depthO 32 o : Int) - 1) (printO 32 o) [] 0 0 (by rw [printO_eq]; simp) (.inl rfl) (fun _ => by
    unfold noRef skL wdL; simp [skipN])
  rw [← printO_eq, Nat.zero_add (printO 32 o).length] at this
  exact ⟨1, this⟩
end
end Go.Proofs.YtdjhjfpeckndkaaGreatDoor
