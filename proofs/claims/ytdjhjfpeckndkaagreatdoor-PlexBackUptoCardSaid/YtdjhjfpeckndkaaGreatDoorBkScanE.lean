/- Contract: the lexer's escape. -/
import Derived.Test.YtdjhjfpeckndkaaGreatDoorBkScanA
set_option linter.unusedVariables false
set_option linter.unusedSimpArgs false
namespace Go.Proofs.YtdjhjfpeckndkaaGreatDoor
open Go.RowKit
def EscQ (w : World) (r : Nat) (A : Option Addr) (n c k : Nat) (bs : List UInt8) (base : Nat) (v : Value) (out : List UInt8) (e : Ending) (w' : World) : Prop :=
  ∃ v', e = .returned v' ∧ w'.ownsRow base 5 1 v' out.length (u8s out) ∧ Ss w' r A n c k bs ∧ Fr (r :: v.ownBlock.toList) w w' ∧ (v'.ownBlock = v.ownBlock ∨ ∃ g, v'.ownBlock = some g ∧ w.heap.size ≤ g)
/-- The row that is appended to is neither the reader nor its bytes. -/
theorem Ss.app {w w1 : World} {r n c k base m : Nat} {A : Option Addr} {bs : List UInt8} {v : Value} {xs : List Value} (hs : Ss w r A n c k bs) (hown : w.ownsRow base 5 1 v m xs)
    (hAB : ∀ ad, A = some ad → 0 < n → ad.block < base) (hf : Fr v.ownBlock.toList w w1) : Ss w1 r A n c k bs := by
  refine hs.keep hf ?_ ?_
  · intro hm
    exact own_blk_ne hown hs.blk (by decide) (by simpa using hm)
  · intro ad e hn hm
    have h1 := hAB ad e hn
    have h2 := own_base hown ad.block (by simpa using hm)
    omega
set_option maxRecDepth 100000 in
set_option maxHeartbeats 400000 in
theorem escape_110 (r n c k : Nat) (A : Option Addr) (bs : List UInt8) (base : Nat) (v : Value) (out : List UInt8) (w : World) (hs : Ss w r A n c k bs) (hown : w.ownsRow base 5 1 v out.length (u8s out))
    (hAB : ∀ ad, A = some ad → 0 < n → ad.block < base) (hbase : base ≤ w.heap.size) (hlen : out.length ≤ 1073741824) :
    Calls Tryz.prog 279 #[.pointer (some ⟨r, 0, none⟩), v, .int .u8 110] w (EscQ w r A n c k bs base v (out ++ [10])) := by
  go_enter Tryz.func279, Tryz.ntmps279
  go_wp2_with (at_builtin; refine app_u8 rfl (.tmp 12) (.tmp 13) rfl _ out w base _ _ 10 rfl rfl rfl hown rfl hlen hbase ?_; intro v1 w1 hown1 hf1 hb1)
  go_ret
  exact ⟨v1, rfl, by rw [List.length_append]; exact hown1, hs.app hown hAB hf1, hf1.mono (fun g hg => .inl (List.mem_cons_of_mem _ hg)), by rcases hb1 with h | h; exact .inl h; exact .inr ⟨_, h, by omega⟩⟩
set_option maxRecDepth 100000 in
set_option maxHeartbeats 400000 in
theorem escape_114 (r n c k : Nat) (A : Option Addr) (bs : List UInt8) (base : Nat) (v : Value) (out : List UInt8) (w : World) (hs : Ss w r A n c k bs) (hown : w.ownsRow base 5 1 v out.length (u8s out))
    (hAB : ∀ ad, A = some ad → 0 < n → ad.block < base) (hbase : base ≤ w.heap.size) (hlen : out.length ≤ 1073741824) :
    Calls Tryz.prog 279 #[.pointer (some ⟨r, 0, none⟩), v, .int .u8 114] w (EscQ w r A n c k bs base v (out ++ [13])) := by
  go_enter Tryz.func279, Tryz.ntmps279
  go_wp2_with (at_builtin; refine app_u8 rfl (.tmp 17) (.tmp 18) rfl _ out w base _ _ 13 rfl rfl rfl hown rfl hlen hbase ?_; intro v1 w1 hown1 hf1 hb1)
  go_ret
  exact ⟨v1, rfl, by rw [List.length_append]; exact hown1, hs.app hown hAB hf1, hf1.mono (fun g hg => .inl (List.mem_cons_of_mem _ hg)), by rcases hb1 with h | h; exact .inl h; exact .inr ⟨_, h, by omega⟩⟩
set_option maxRecDepth 100000 in
set_option maxHeartbeats 400000 in
theorem escape_116 (r n c k : Nat) (A : Option Addr) (bs : List UInt8) (base : Nat) (v : Value) (out : List UInt8) (w : World) (hs : Ss w r A n c k bs) (hown : w.ownsRow base 5 1 v out.length (u8s out))
    (hAB : ∀ ad, A = some ad → 0 < n → ad.block < base) (hbase : base ≤ w.heap.size) (hlen : out.length ≤ 1073741824) :
    Calls Tryz.prog 279 #[.pointer (some ⟨r, 0, none⟩), v, .int .u8 116] w (EscQ w r A n c k bs base v (out ++ [9])) := by
  go_enter Tryz.func279, Tryz.ntmps279
  go_wp2_with (at_builtin; refine app_u8 rfl (.tmp 22) (.tmp 23) rfl _ out w base _ _ 9 rfl rfl rfl hown rfl hlen hbase ?_; intro v1 w1 hown1 hf1 hb1)
  go_ret
  exact ⟨v1, rfl, by rw [List.length_append]; exact hown1, hs.app hown hAB hf1, hf1.mono (fun g hg => .inl (List.mem_cons_of_mem _ hg)), by rcases hb1 with h | h; exact .inl h; exact .inr ⟨_, h, by omega⟩⟩
set_option maxRecDepth 100000 in
set_option maxHeartbeats 400000 in
theorem escape_98 (r n c k : Nat) (A : Option Addr) (bs : List UInt8) (base : Nat) (v : Value) (out : List UInt8) (w : World) (hs : Ss w r A n c k bs) (hown : w.ownsRow base 5 1 v out.length (u8s out))
    (hAB : ∀ ad, A = some ad → 0 < n → ad.block < base) (hbase : base ≤ w.heap.size) (hlen : out.length ≤ 1073741824) :
    Calls Tryz.prog 279 #[.pointer (some ⟨r, 0, none⟩), v, .int .u8 98] w (EscQ w r A n c k bs base v (out ++ [8])) := by
  go_enter Tryz.func279, Tryz.ntmps279
  go_wp2_with (at_builtin; refine app_u8 rfl (.tmp 27) (.tmp 28) rfl _ out w base _ _ 8 rfl rfl rfl hown rfl hlen hbase ?_; intro v1 w1 hown1 hf1 hb1)
  go_ret
  exact ⟨v1, rfl, by rw [List.length_append]; exact hown1, hs.app hown hAB hf1, hf1.mono (fun g hg => .inl (List.mem_cons_of_mem _ hg)), by rcases hb1 with h | h; exact .inl h; exact .inr ⟨_, h, by omega⟩⟩
set_option maxRecDepth 100000 in
set_option maxHeartbeats 400000 in
theorem escape_102 (r n c k : Nat) (A : Option Addr) (bs : List UInt8) (base : Nat) (v : Value) (out : List UInt8) (w : World) (hs : Ss w r A n c k bs) (hown : w.ownsRow base 5 1 v out.length (u8s out))
    (hAB : ∀ ad, A = some ad → 0 < n → ad.block < base) (hbase : base ≤ w.heap.size) (hlen : out.length ≤ 1073741824) :
    Calls Tryz.prog 279 #[.pointer (some ⟨r, 0, none⟩), v, .int .u8 102] w (EscQ w r A n c k bs base v (out ++ [12])) := by
  go_enter Tryz.func279, Tryz.ntmps279
  go_wp2_with (at_builtin; refine app_u8 rfl (.tmp 32) (.tmp 33) rfl _ out w base _ _ 12 rfl rfl rfl hown rfl hlen hbase ?_; intro v1 w1 hown1 hf1 hb1)
  go_ret
  exact ⟨v1, rfl, by rw [List.length_append]; exact hown1, hs.app hown hAB hf1, hf1.mono (fun g hg => .inl (List.mem_cons_of_mem _ hg)), by rcases hb1 with h | h; exact .inl h; exact .inr ⟨_, h, by omega⟩⟩
set_option maxRecDepth 100000 in
set_option maxHeartbeats 400000 in
theorem escape_10 (r n c k : Nat) (A : Option Addr) (bs : List UInt8) (base : Nat) (v : Value) (out : List UInt8) (w : World) (hs : Ss w r A n c k bs) (hown : w.ownsRow base 5 1 v out.length (u8s out))
    (hAB : ∀ ad, A = some ad → 0 < n → ad.block < base) (hbase : base ≤ w.heap.size) (hlen : out.length ≤ 1073741824) :
    Calls Tryz.prog 279 #[.pointer (some ⟨r, 0, none⟩), v, .int .u8 10] w (EscQ w r A n c k bs base v out) := by
  go_enter Tryz.func279, Tryz.ntmps279
  go_wp2
  go_ret
  exact ⟨v, rfl, hown, hs, Fr.refl _ _, .inl rfl⟩
set_option maxRecDepth 100000 in
set_option maxHeartbeats 400000 in
theorem escape_13y (r n c k : Nat) (A : Option Addr) (bs : List UInt8) (base : Nat) (v : Value) (out : List UInt8) (w : World) (hs : Ss w r A n c k bs) (hown : w.ownsRow base 5 1 v out.length (u8s out))
    (hAB : ∀ ad, A = some ad → 0 < n → ad.block < base) (hbase : base ≤ w.heap.size) (hlen : out.length ≤ 1073741824) (hu : bs[k]? = some 10) :
    Calls Tryz.prog 279 #[.pointer (some ⟨r, 0, none⟩), v, .int .u8 13] w (EscQ w r A n c (k + 1) bs base v out) := by
  have HN := hide (next_yes r n c k A bs 10 w hs hu)
  clear hu
  go_enter Tryz.func279, Tryz.ntmps279
  go_wp2_with (go_at_call 280; refine (HN.out).mono ?_; rintro e w1 ⟨rfl, hs1, hf1⟩)
  go_ret
  exact ⟨v, rfl, own_keep hown hf1 (fun g hg => by
    have : g = r := by simpa using hg
    subst this
    exact own_blk_ne hown hs.blk (by decide)), hs1, hf1.mono (fun g hg => .inl (by rw [List.mem_singleton.1 hg]; exact List.mem_cons_self)), .inl rfl⟩
set_option maxRecDepth 100000 in
set_option maxHeartbeats 400000 in
theorem escape_13n (r n c k : Nat) (A : Option Addr) (bs : List UInt8) (base : Nat) (v : Value) (out : List UInt8) (w : World) (hs : Ss w r A n c k bs) (hown : w.ownsRow base 5 1 v out.length (u8s out))
    (hAB : ∀ ad, A = some ad → 0 < n → ad.block < base) (hbase : base ≤ w.heap.size) (hlen : out.length ≤ 1073741824) (hu : ¬ bs[k]? = some 10) :
    Calls Tryz.prog 279 #[.pointer (some ⟨r, 0, none⟩), v, .int .u8 13] w (EscQ w r A n c k bs base v out) := by
  have HN := hide (next_no r n c k A bs 10 w hs hu)
  clear hu
  go_enter Tryz.func279, Tryz.ntmps279
  go_wp2_with (go_at_call 280; refine (HN.out).mono ?_; rintro e w1 ⟨rfl, hs1, hf1⟩)
  go_ret
  exact ⟨v, rfl, own_keep hown hf1 (fun g hg => by
    have : g = r := by simpa using hg
    subst this
    exact own_blk_ne hown hs.blk (by decide)), hs1, hf1.mono (fun g hg => .inl (by rw [List.mem_singleton.1 hg]; exact List.mem_cons_self)), .inl rfl⟩
set_option maxRecDepth 100000 in
set_option maxHeartbeats 400000 in
theorem escape_other (r n c k : Nat) (A : Option Addr) (bs : List UInt8) (base : Nat) (v : Value) (out : List UInt8) (d : UInt8) (w : World) (hs : Ss w r A n c k bs) (hown : w.ownsRow base 5 1 v out.length (u8s out))
    (hAB : ∀ ad, A = some ad → 0 < n → ad.block < base) (hbase : base ≤ w.heap.size) (hlen : out.length ≤ 1073741824) (hd : ¬ d.toNat = 110 ∧ ¬ d.toNat = 114 ∧ ¬ d.toNat = 116 ∧ ¬ d.toNat = 98 ∧ ¬ d.toNat = 102 ∧ ¬ d.toNat = 10 ∧ ¬ d.toNat = 13) (ho : octB d = false) :
    Calls Tryz.prog 279 #[.pointer (some ⟨r, 0, none⟩), v, .int .u8 d.toNat] w (EscQ w r A n c k bs base v (out ++ [d])) := by
  have h110 : ((d.toNat : Int) == 110) = false := by simp; omega
  have h114 : ((d.toNat : Int) == 114) = false := by simp; omega
  have h116 : ((d.toNat : Int) == 116) = false := by simp; omega
  have h98 : ((d.toNat : Int) == 98) = false := by simp; omega
  have h102 : ((d.toNat : Int) == 102) = false := by simp; omega
  have h10 : ((d.toNat : Int) == 10) = false := by simp; omega
  have h13 : ((d.toNat : Int) == 13) = false := by simp; omega
  have ho' : d.toNat < 48 ∨ 55 < d.toNat := by unfold octB at ho; simp at ho; omega
  clear hd ho
  rcases ho' with ho | ho
  · have hl : decide ((d.toNat : Int) < 48) = true := by simp; omega
    go_enter Tryz.func279, Tryz.ntmps279
    go_wp2_with (at_builtin; refine app_u8 rfl (.tmp 49) (.tmp 51) rfl _ out w base _ _ d rfl rfl rfl hown rfl hlen hbase ?_; intro v1 w1 hown1 hf1 hb1)
    go_ret
    exact ⟨v1, rfl, by rw [List.length_append]; exact hown1, hs.app hown hAB hf1, hf1.mono (fun g hg => .inl (List.mem_cons_of_mem _ hg)), by rcases hb1 with h | h; exact .inl h; exact .inr ⟨_, h, by omega⟩⟩
  · have hl : decide ((d.toNat : Int) < 48) = false := by simp; omega
    have hl2 : decide ((55 : Int) < (d.toNat : Int)) = true := by simp; omega
    go_enter Tryz.func279, Tryz.ntmps279
    go_wp2_with (at_builtin; refine app_u8 rfl (.tmp 49) (.tmp 51) rfl _ out w base _ _ d rfl rfl rfl hown rfl hlen hbase ?_; intro v1 w1 hown1 hf1 hb1)
    go_ret
    exact ⟨v1, rfl, by rw [List.length_append]; exact hown1, hs.app hown hAB hf1, hf1.mono (fun g hg => .inl (List.mem_cons_of_mem _ hg)), by rcases hb1 with h | h; exact .inl h; exact .inr ⟨_, h, by omega⟩⟩
/-- The value of an octal escape behind so many further digits. -/
def octAcc (bs : List UInt8) (k : Nat) (d : UInt8) : Nat → Nat
  | 0 => d.toNat - 48
  | 1 => 8 * (d.toNat - 48) + octV bs k
  | _ => 8 * (8 * (d.toNat - 48) + octV bs k) + octV bs (k + 1)
theorem octAcc_next (bs : List UInt8) (k : Nat) (d : UInt8) (i : Nat) (hi : i < 2) : octAcc bs k d (i + 1) = 8 * octAcc bs k d i + octV bs (k + i) := by
  match i, hi with
  | 0, _ => rfl
  | 1, _ => rfl
theorem octV_le (bs : List UInt8) (k : Nat) (h : isOct bs k = true) : octV bs k ≤ 7 := by
  unfold isOct at h
  unfold octV
  cases hb : bs[k]? with
  | none => simp
  | some c =>
    rw [hb] at h
    simp only [octB, decide_eq_true_eq] at h
    simp only
    omega
set_option maxRecDepth 100000 in
set_option maxHeartbeats 1000000 in
theorem escape_oct (r n c k : Nat) (A : Option Addr) (bs : List UInt8) (base : Nat) (v : Value) (out : List UInt8) (d : UInt8) (w : World) (hs : Ss w r A n c k bs) (hown : w.ownsRow base 5 1 v out.length (u8s out))
    (hAB : ∀ ad, A = some ad → 0 < n → ad.block < base) (hbase : base ≤ w.heap.size) (hlen : out.length ≤ 1073741824) (ho : octB d = true) (m : Nat) (hm : m ≤ 2) (hall : ∀ j, j < m → isOct bs (k + j) = true) (hstop : m < 2 → isOct bs (k + m) = false) :
    Calls Tryz.prog 279 #[.pointer (some ⟨r, 0, none⟩), v, .int .u8 d.toNat] w (EscQ w r A n c (k + m) bs base v (out ++ [UInt8.ofNat (octAcc bs k d m)])) := by
  have ho' : 48 ≤ d.toNat ∧ d.toNat ≤ 55 := by unfold octB at ho; simpa using ho
  clear ho
  have h110 : ((d.toNat : Int) == 110) = false := by simp; omega
  have h114 : ((d.toNat : Int) == 114) = false := by simp; omega
  have h116 : ((d.toNat : Int) == 116) = false := by simp; omega
  have h98 : ((d.toNat : Int) == 98) = false := by simp; omega
  have h102 : ((d.toNat : Int) == 102) = false := by simp; omega
  have h10 : ((d.toNat : Int) == 10) = false := by simp; omega
  have h13 : ((d.toNat : Int) == 13) = false := by simp; omega
  have hl : decide ((d.toNat : Int) < 48) = false := by simp; omega
  have hl2 : decide ((55 : Int) < (d.toNat : Int)) = false := by simp; omega
  have hsm := hs.small
  have hlen' := hs.len
  go_enter Tryz.func279, Tryz.ntmps279
  go_wp2_with fail
  go_loopw [7, 8] (fun nn i wr => ∃ q : Nat, q ≤ m ∧ i = .int .i64 q ∧ nn = .int .i64 (octAcc bs k d q : Nat) ∧ octAcc bs k d q ≤ 511 ∧ Ss wr r A n c (k + q) bs ∧ Fr [r] w wr) (fun _ i _ => 2 - (intOf i).toNat)
  case atStart => exact ⟨0, Nat.zero_le _, rfl, by show _ = _; simp [octAcc]; omega, (by simp [octAcc]; omega : octAcc bs k d 0 ≤ 511), hs, Fr.refl _ _⟩
  case round =>
    obtain ⟨q, hq, rfl, rfl, hv, hsq, hfq⟩ := hrel
    have hkq := hsq.le
    obtain ⟨c0, c1, cz⟩ := hsq.blk.c2
    have hmr := fun nq => more_any r n c (k + q) A bs (wr.drewN nq) (hsq.keep0 ((Fr.refl _ _).drewN nq))
    by_cases hqm : q < m
    · have hoct := hall q hqm
      have hlt : k + q < n := by have := isOct_lt hoct; rw [hlen'] at this; exact this
      obtain ⟨u, hu⟩ : ∃ u, bs[k + q]? = some u := ⟨_, List.getElem?_eq_getElem (by rw [hlen']; exact hlt)⟩
      have huo : 48 ≤ u.toNat ∧ u.toNat ≤ 55 := by unfold isOct at hoct; rw [hu] at hoct; simpa [octB] using hoct
      have HA : Hid (octAcc bs k d (q + 1) = 8 * octAcc bs k d q + (u.toNat - 48)) := by
        have := octAcc_next bs k d q (by omega)
        unfold octV at this
        rw [hu] at this
        exact this
      rw [decide_eq_true hlt] at hmr
      have HM := hide hmr
      clear hmr
      have hTK := fun w' h => take_ok r n c (k + q) A bs u w' h hu
      have HTK := hide hTK
      clear hTK
      obtain ⟨ad, hA, _, hcb⟩ := hsq.rb.at2 hu
      subst hA
      clear hu hoct
      have hd0 : decide ((q : Int) < 2) = true := by simp; omega
      have hd1 : decide ((48 : Int) ≤ (u.toNat : Int)) = true := by simp; omega
      have hd2 : decide ((u.toNat : Int) ≤ 55) = true := by simp; omega
      have hv1 : 8 * octAcc bs k d q + (u.toNat - 48) ≤ 511 := by
        rcases Nat.lt_or_ge q 1 with h | h
        · obtain rfl : q = 0 := by omega
          simp only [octAcc]
          omega
        · obtain rfl : q = 1 := by omega
          have := octV_le bs k (hall 0 (by omega))
          simp only [octAcc]
          omega
      generalize octAcc bs k d q = vv at *
      go_wp2
      go_quiet ((go_at_call 231; exact Calls.quiet_of (HM.out _)))
      go_wp2_with (go_at_call 278; refine (HTK.out _ ?_).mono ?_; (· exact hsq.keep0 (by repeat (first | with_reducible exact Fr.refl _ _ | with_reducible assumption | with_reducible refine Fr.drewN ?_ _ | with_reducible refine Fr.drew ?_ | with_reducible refine Fr.alloc ?_ _ | ((with_reducible refine Fr.setCell ?_ ?_ _) <;> first | (apply Or.inl; simp; done) | (apply Or.inr; simp; done) | (apply Or.inr; simp; omega) | skip) | (refine Fr.then0 ?_ (by with_reducible assumption)) | (refine Fr.trans ?_ (by with_reducible assumption))))); rintro e w1 ⟨rfl, hs1, hf1⟩)
      go_roundw
      case rel => exact ⟨q + 1, by omega, by go_num, by rw [HA.out]; congr 1; omega, by rw [HA.out]; omega, hs1, hfq.trans (hf1.drewN_left)⟩
      case measure => simp [intOf]; omega
    · obtain rfl : q = m := by omega
      have hvr : ∀ g, g ∈ [r] → v.ownBlock ≠ some g := fun g hg => by
        rw [List.mem_singleton.1 hg]
        exact own_blk_ne hown hs.blk (by decide)
      have HV : Hid (((octAcc bs k d q : Nat) : Int) % 256 = ((UInt8.ofNat (octAcc bs k d q)).toNat : Int)) := by
        have : (((octAcc bs k d q : Nat) : Int) % 256) = ((UInt8.ofNat (octAcc bs k d q)).toNat : Int) := by simp
        exact this
      obtain ⟨vv, hvv⟩ : ∃ vv, vv = octAcc bs k d q := ⟨_, rfl⟩
      rw [← hvv] at hv HV ⊢
      have HVV := hide hvv
      clear hvv
      by_cases h2 : q < 2
      · have hno := hstop h2
        have hd0 : decide ((q : Int) < 2) = true := by simp; omega
        by_cases hlt : k + q < n
        · obtain ⟨u, hu⟩ : ∃ u, bs[k + q]? = some u := ⟨_, List.getElem?_eq_getElem (by rw [hlen']; exact hlt)⟩
          have huo : u.toNat < 48 ∨ 55 < u.toNat := by
            unfold isOct at hno
            rw [hu] at hno
            simp [octB] at hno
            omega
          rw [decide_eq_true hlt] at hmr
          have HM := hide hmr
          clear hmr
          obtain ⟨ad, hA, _, hcb⟩ := hsq.rb.at2 hu
          subst hA
          clear hu hno
          rcases huo with huo | huo
          · have hd1 : decide ((48 : Int) ≤ (u.toNat : Int)) = false := by simp; omega
            go_wp2
            go_quiet ((go_at_call 231; exact Calls.quiet_of (HM.out _)))
            have hsq' := hsq.keep0 ((Fr.refl [] wr).drewN nq)
            have hfq' := hfq.drewN nq
            have hown' := own_keep hown hfq' hvr
            go_wp2_with (at_builtin; refine app_u8 rfl (.tmp 97) (.tmp 100) rfl _ out (wr.drewN nq) base _ _ (UInt8.ofNat vv) HV.out rfl rfl hown' rfl hlen (Nat.le_trans hbase hfq'.size) ?_; intro v1 w1 hown1 hf1 hb1)
            go_ret
            exact ⟨v1, rfl, by rw [← HVV.out, List.length_append]; exact hown1, hsq'.app hown' hAB hf1, (hfq'.mono (fun g hg => .inl (by rw [List.mem_singleton.1 hg]; exact List.mem_cons_self))).trans' hf1 (fun g hg => .inl (List.mem_cons_of_mem _ hg)), by rcases hb1 with h | h; exact .inl h; exact .inr ⟨_, h, by have := hfq'.size; omega⟩⟩
          · have hd1 : decide ((48 : Int) ≤ (u.toNat : Int)) = true := by simp; omega
            have hd2 : decide ((u.toNat : Int) ≤ 55) = false := by simp; omega
            go_wp2
            go_quiet ((go_at_call 231; exact Calls.quiet_of (HM.out _)))
            have hsq' := hsq.keep0 ((Fr.refl [] wr).drewN nq)
            have hfq' := hfq.drewN nq
            have hown' := own_keep hown hfq' hvr
            go_wp2_with (at_builtin; refine app_u8 rfl (.tmp 97) (.tmp 100) rfl _ out (wr.drewN nq) base _ _ (UInt8.ofNat vv) HV.out rfl rfl hown' rfl hlen (Nat.le_trans hbase hfq'.size) ?_; intro v1 w1 hown1 hf1 hb1)
            go_ret
            exact ⟨v1, rfl, by rw [← HVV.out, List.length_append]; exact hown1, hsq'.app hown' hAB hf1, (hfq'.mono (fun g hg => .inl (by rw [List.mem_singleton.1 hg]; exact List.mem_cons_self))).trans' hf1 (fun g hg => .inl (List.mem_cons_of_mem _ hg)), by rcases hb1 with h | h; exact .inl h; exact .inr ⟨_, h, by have := hfq'.size; omega⟩⟩
        · rw [decide_eq_false hlt] at hmr
          have HM := hide hmr
          clear hmr hno
          go_wp2
          go_quiet ((go_at_call 231; exact Calls.quiet_of (HM.out _)))
          have hsq' := hsq.keep0 ((Fr.refl [] wr).drewN nq)
          have hfq' := hfq.drewN nq
          have hown' := own_keep hown hfq' hvr
          go_wp2_with (at_builtin; refine app_u8 rfl (.tmp 97) (.tmp 100) rfl _ out (wr.drewN nq) base _ _ (UInt8.ofNat vv) HV.out rfl rfl hown' rfl hlen (Nat.le_trans hbase hfq'.size) ?_; intro v1 w1 hown1 hf1 hb1)
          go_ret
          exact ⟨v1, rfl, by rw [← HVV.out, List.length_append]; exact hown1, hsq'.app hown' hAB hf1, (hfq'.mono (fun g hg => .inl (by rw [List.mem_singleton.1 hg]; exact List.mem_cons_self))).trans' hf1 (fun g hg => .inl (List.mem_cons_of_mem _ hg)), by rcases hb1 with h | h; exact .inl h; exact .inr ⟨_, h, by have := hfq'.size; omega⟩⟩
      · have hd0 : decide ((q : Int) < 2) = false := by simp; omega
        have HM := hide hmr
        clear hmr
        go_wp2
        go_quiet ((go_at_call 231; exact Calls.quiet_of (HM.out _)))
        have hsq' := hsq.keep0 ((Fr.refl [] wr).drewN nq)
        have hfq' := hfq.drewN nq
        have hown' := own_keep hown hfq' hvr
        go_wp2_with (at_builtin; refine app_u8 rfl (.tmp 97) (.tmp 100) rfl _ out (wr.drewN nq) base _ _ (UInt8.ofNat vv) HV.out rfl rfl hown' rfl hlen (Nat.le_trans hbase hfq'.size) ?_; intro v1 w1 hown1 hf1 hb1)
        go_ret
        exact ⟨v1, rfl, by rw [← HVV.out, List.length_append]; exact hown1, hsq'.app hown' hAB hf1, (hfq'.mono (fun g hg => .inl (by rw [List.mem_singleton.1 hg]; exact List.mem_cons_self))).trans' hf1 (fun g hg => .inl (List.mem_cons_of_mem _ hg)), by rcases hb1 with h | h; exact .inl h; exact .inr ⟨_, h, by have := hfq'.size; omega⟩⟩

end Go.Proofs.YtdjhjfpeckndkaaGreatDoor
