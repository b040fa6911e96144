/- A strings.Builder in memory (its block of whatever type that begins with one), and its methods. -/
import Derived.Test.YtndfdekcdhlgoaaDoorScBase
import Derived.Lib.Builder
import Derived.Laws.EntriesVeiled
set_option linter.unusedVariables false
set_option linter.unusedSimpArgs false
namespace Go.Proofs.YtndfdekcdhlgoaaDoor
open Go.RowKit
/-- A builder in block b, over blocks from base on: bs its bytes. -/
def Bu (w : World) (base : Nat) (t : TypeId) (b : Nat) (bs : List UInt8) : Prop :=
  base ≤ b ∧ ∃ a v, Blk w b t #[a, v] ∧ (a = .pointer none ∨ a = .pointer (some ⟨b, 0, none⟩)) ∧ w.ownsRow base 5 1 v bs.length (u8s bs) ∧ v.ownBlock ≠ some b ∧ (bs = [] → v = .slice none 0 0)
/-- What a builder's methods may turn: its own block, rows of bytes from base on. -/
def Soft (w : World) (base b g : Nat) : Prop := base ≤ g ∧ (g = b ∨ ∃ cs fz, w.heap[g]? = some (.cells cs 5 fz))
structure FrB (base b : Nat) (w w' : World) : Prop where
  os : w'.os = w.os
  tape : w'.tape = w.tape
  output : w'.output = w.output
  size : w.heap.size ≤ w'.heap.size
  block : ∀ g, g < w.heap.size → ¬ Soft w base b g → w'.heap[g]? = w.heap[g]?
def Grew (w : World) (base : Nat) (t : TypeId) (b : Nat) (bs : List UInt8) (w' : World) : Prop := Bu w' base t b bs ∧ FrB base b w w'
section
variable {w w' w'' : World} {base b : Nat} {t : TypeId} {bs cs : List UInt8}
theorem Bu.lo (h : Bu w base t b bs) : base ≤ b := h.1
theorem Bu.lt (h : Bu w base t b bs) : b < w.heap.size := by obtain ⟨_, a, v, hb, _⟩ := h; exact hb.lt
theorem Bu.base_le (h : Bu w base t b bs) : base ≤ w.heap.size := Nat.le_trans h.lo (Nat.le_of_lt h.lt)
theorem Bu.keep (h : Bu w base t b bs) (hf : Fr [] w w') : Bu w' base t b bs := by
  obtain ⟨h1, a, v, hb, ha, ho, hn, hz⟩ := h
  exact ⟨h1, a, v, hb.keep hf (by simp), ha, own_keep ho hf (by simp), hn, hz⟩
theorem FrB.refl (base b : Nat) (w : World) : FrB base b w w := ⟨rfl, rfl, rfl, Nat.le_refl _, fun _ _ _ => rfl⟩
theorem FrB.of_fr {S : List Nat} (h : Fr S w w') (hS : ∀ g, g ∈ S → Soft w base b g) : FrB base b w w' :=
  ⟨h.os, h.tape, h.output, h.size, fun g hg hn => h.block g hg fun hm => hn (hS g hm)⟩
theorem FrB.of0 (h : Fr [] w w') : FrB base b w w' := FrB.of_fr h (by simp)
theorem FrB.trans (h : FrB base b w w') (k : FrB base b w' w'') : FrB base b w w'' :=
  ⟨k.os.trans h.os, k.tape.trans h.tape, k.output.trans h.output, Nat.le_trans h.size k.size, fun g hg hn => by
    have h1 := h.block g hg hn
    refine (k.block g (Nat.lt_of_lt_of_le hg h.size) fun hs => hn ⟨hs.1, ?_⟩).trans h1
    rcases hs.2 with h2 | ⟨cs, fz, h2⟩
    · exact .inl h2
    · exact .inr ⟨cs, fz, by rw [← h1]; exact h2⟩⟩
theorem FrB.fr (h : FrB base b w w') : ∃ S, Fr S w w' ∧ ∀ g, g ∈ S → Soft w base b g := by
  classical
  refine ⟨(List.range w.heap.size).filter fun g => decide (Soft w base b g), ⟨h.os, h.tape, h.output, h.size, fun g hg hn => h.block g hg fun hs => hn ?_⟩, fun g hg => ?_⟩
  · simp [hg, hs]
  · simpa using (List.mem_filter.1 hg).2
theorem FrB.below (h : FrB base b w w') (hb : base ≤ w.heap.size) : Below base w w' :=
  ⟨h.os, h.tape, h.output, h.size, fun g hg => h.block g (by omega) fun hs => by have := hs.1; omega⟩
/-- A block of another type is as it was. -/
theorem FrB.blk {g : Nat} {tg : TypeId} {xs : Array Value} (h : FrB base b w w') (hg : Blk w g tg xs) (h1 : g ≠ b) (h2 : tg ≠ 5) : Blk w' g tg xs := by
  refine (h.block g hg.lt fun hs => ?_).trans hg
  rcases hs.2 with h3 | ⟨cs, fz, h3⟩
  · exact h1 h3
  · unfold Blk at hg
    rw [hg] at h3
    injection h3 with h3
    injection h3 with _ h3
    exact h2 h3
theorem FrB.cell (h : FrB base b w w') {p : Addr} {u : Value} (hc : w.cell? p = some u) (hp : p.block < base) : w'.cell? p = some u :=
  (World.cell?_of_block (w := w) (h.block p.block (World.block_lt_of_cell? w p hc) fun hs => by have := hs.1; omega)).trans hc
theorem Bu.ne_blk {g : Nat} {tg : TypeId} {xs : Array Value} (h : Bu w base t b bs) (hg : Blk w g tg xs) (h1 : tg ≠ t) : g ≠ b := by
  obtain ⟨_, a, v, hb, _⟩ := h
  exact Blk.ne_ hg hb h1
theorem Grew.refl (h : Bu w base t b bs) : Grew w base t b bs w := ⟨h, FrB.refl _ _ _⟩
theorem Grew.after (hf : Fr [] w w') (h : Grew w' base t b cs w'') : Grew w base t b cs w'' := ⟨h.1, (FrB.of0 hf).trans h.2⟩
theorem Grew.then0 (h : Grew w base t b cs w') (hf : Fr [] w' w'') : Grew w base t b cs w'' := ⟨h.1.keep hf, h.2.trans (FrB.of0 hf)⟩
theorem Grew.trans (h : Grew w base t b bs w') (k : Grew w' base t b cs w'') : Grew w base t b cs w'' := ⟨k.1, h.2.trans k.2⟩
end
/-- Where a builder may lie. -/
def Lies (t : TypeId) : Prop := liesAt Tryd.prog Tryd.prog.depth t (2 / Tryd.prog.cellsOf t) 0 50 1 = true
theorem lies_builder : Lies 50 := by unfold Lies; kernel_rfl
theorem lies_printer : Lies 52 := by unfold Lies; kernel_rfl
theorem size_builder : (Tryd.prog.info? 50).map (·.size) = some 2 := by kernel_rfl
set_option maxRecDepth 100000 in
theorem copyCheck_any {w : World} {b : Nat} {t : TypeId} {a v : Value} (hb : Blk w b t #[a, v]) (ha : a = .pointer none ∨ a = .pointer (some ⟨b, 0, none⟩)) (hl : Lies t) :
    Calls Tryd.prog 26 #[.pointer (some ⟨b, 0, none⟩)] w fun e w' => e = .returned (.tuple #[]) ∧ Blk w' b t #[.pointer (some ⟨b, 0, none⟩), v] ∧ Fr [b] w w' := by
  have c0 : w.cell? ⟨b, 0, none⟩ = some a := hb.cell 0
  have z0 := hb.frozen 0
  obtain ⟨j, hj, hjs⟩ := Option.map_eq_some_iff.1 size_builder
  have hsh : w.shape? b = some (t, 2) := by unfold Blk at hb; simp [World.shape?, hb]
  rcases ha with rfl | rfl
  · go_enter Tryd.func26, Tryd.ntmps26
    go_wp2
    rw [Lib.run_to_unsafe w ⟨b, 0, none⟩ Tryd.underlying48 Tryd.underlying83 hj (by rw [hjs]; decide) hsh (Nat.zero_lt_succ 1)]
    simp only [Result.andThen]
    rw [Oper.upon_value]
    go_wp2
    rw [run_callFunc_extern Tryd.func46 (by kernel_rfl) (by kernel_rfl) (by kernel_rfl) (e := Extern.AbiNoEscape.same) (by kernel_rfl)]
    rw [Lib.run_noEscape]
    simp only [Result.andThen]
    rw [Oper.upon_value]
    go_wp2
    rw [Lib.run_from_unsafe w ⟨b, 0, none⟩ Tryd.underlying83 Tryd.underlying48 hj hsh hl]
    simp only [Result.andThen]
    rw [Oper.upon_value]
    go_wp2
    go_end0
    exact ⟨rfl, by simpa using hb.set_ 0 (.pointer (some ⟨b, 0, none⟩)), (Fr.refl _ _).setCell (.inl (by simp)) _⟩
  · go_enter Tryd.func26, Tryd.ntmps26
    go_wp2
    rw [Lib.run_neq_ptr_same w _ Tryd.underlying48 hj]
    go_wp2
    go_end0
    exact ⟨rfl, hb, Fr.refl _ _⟩
theorem own_soft {w : World} {base n b : Nat} {v : Value} {xs : List Value} (h : w.ownsRow base 5 1 v n xs) (g : Nat) (hg : v.ownBlock = some g) : Soft w base b g := by
  rcases h.2 with ⟨rfl, _⟩ | ⟨k, cap, cur, rfl, hk, hh, _⟩
  · simp [Value.ownBlock] at hg
  · have : k = g := by simpa [Value.ownBlock] using hg
    subst this
    exact ⟨hk, .inr ⟨_, _, hh⟩⟩
theorem soft_b {w : World} {base b : Nat} (h : base ≤ b) : ∀ g, g ∈ [b] → Soft w base b g := fun g hg => by
  rw [List.mem_singleton.1 hg]; exact ⟨h, .inl rfl⟩
/-- Behind an append to the buffer, stored. -/
theorem Bu.put {w w1 w2 : World} {base b : Nat} {t : TypeId} {v v' : Value} {cs : List UInt8} (hlo : base ≤ b) (hb : Blk w1 b t #[.pointer (some ⟨b, 0, none⟩), v]) (hf : Fr [b] w w1) (hbw : b < w.heap.size) (ht : 5 ≠ t)
    {n : Nat} {xs : List Value} (hown : w1.ownsRow base 5 1 v n xs) (hne : v.ownBlock ≠ some b) (hown2 : w2.ownsRow base 5 1 v' cs.length (u8s cs)) (hg : w1.grownBy w2 v.ownBlock) (hnz : cs = [] → v' = .slice none 0 0) :
    Grew w base t b cs (w2.setCell ⟨b, 1, none⟩ v') := by
  have hb2 : Blk w2 b t #[.pointer (some ⟨b, 0, none⟩), v] := hb.grown hg (fun e => hne e.symm)
  have hf1 : FrB base b w w1 := FrB.of_fr hf (soft_b hlo)
  have hf2 : FrB base b w1 w2 := FrB.of_fr (S := v.ownBlock.toList) ((Fr.refl _ _).grown hg (fun k hk => .inl (by simp [hk]))) (fun g hg => own_soft hown g (by simpa using hg))
  have hne2 := own_blk_ne hown2 hb2 ht
  have hf3 : FrB base b w2 (w2.setCell ⟨b, 1, none⟩ v') := FrB.of_fr (S := [b]) ((Fr.refl _ _).setCell (.inl (by simp)) _) (soft_b hlo)
  refine ⟨⟨hlo, _, v', by simpa using hb2.set_ 1 v', .inr rfl, own_keep hown2 ((Fr.refl [b] w2).setCell (.inl (by simp)) v') (fun g hg => ?_), hne2, hnz⟩, (hf1.trans hf2).trans hf3⟩
  obtain rfl : g = b := by simpa using hg
  exact hne2
theorem Bu.put2 {w w1 w2 : World} {base b : Nat} {t : TypeId} {v v' : Value} {cs : List UInt8} (hlo : base ≤ b) (hb : Blk w1 b t #[.pointer (some ⟨b, 0, none⟩), v]) (hf : Fr [b] w w1) (ht : 5 ≠ t)
    {n : Nat} {xs : List Value} (hown : w1.ownsRow base 5 1 v n xs) (hne : v.ownBlock ≠ some b) (hown2 : w2.ownsRow base 5 1 v' cs.length (u8s cs)) (hg : Fr v.ownBlock.toList w1 w2) (hnz : cs = [] → v' = .slice none 0 0) :
    Grew w base t b cs (w2.setCell ⟨b, 1, none⟩ v') := by
  have hb2 : Blk w2 b t #[.pointer (some ⟨b, 0, none⟩), v] := hb.keep hg (fun hm => hne (by simpa using hm))
  have hf1 : FrB base b w w1 := FrB.of_fr hf (soft_b hlo)
  have hf2 : FrB base b w1 w2 := FrB.of_fr hg (fun g hg => own_soft hown g (by simpa using hg))
  have hne2 := own_blk_ne hown2 hb2 ht
  have hf3 : FrB base b w2 (w2.setCell ⟨b, 1, none⟩ v') := FrB.of_fr (S := [b]) ((Fr.refl _ _).setCell (.inl (by simp)) _) (soft_b hlo)
  refine ⟨⟨hlo, _, v', by simpa using hb2.set_ 1 v', .inr rfl, own_keep hown2 ((Fr.refl [b] w2).setCell (.inl (by simp)) v') (fun g hg => ?_), hne2, hnz⟩, (hf1.trans hf2).trans hf3⟩
  obtain rfl : g = b := by simpa using hg
  exact hne2
set_option maxRecDepth 100000 in
set_option maxHeartbeats 1000000 in
theorem wstr_any {w : World} {base b : Nat} {t : TypeId} {bs : List UInt8} (h : Bu w base t b bs) (hl : Lies t) (ht : 5 ≠ t) (s : List UInt8) (hlen : bs.length + s.length ≤ 1073741824) :
    Calls Tryd.prog 12 #[.pointer (some ⟨b, 0, none⟩), .string ⟨s.toArray⟩] w fun e w' => e = .returned (.tuple #[.int .i64 s.length, .nilIface]) ∧ Grew w base t b (bs ++ s) w' := by
  have hbw := h.lt
  have hbl := h.base_le
  obtain ⟨hlo, a, v, hb, ha, hown, hne, hnz⟩ := h
  obtain ⟨i0, hi0, hz0, hz1, hz2⟩ := info_parts info_u8
  have HHB := hide hb
  have HHA := hide ha
  have HOWN := hide hown
  have HI0 := hide hi0
  have HZ0 := hide hz0
  have HZ1 := hide hz1
  have HZ2 := hide hz2
  have HNE := hide hne
  have HNZ := hide hnz
  clear hnz
  clear hb ha hown hi0 hz0 hz1 hz2 hne
  have e0 : (⟨s.toArray⟩ : ByteArray).size = s.length := size_str s
  have hsz : (⟨s.toArray⟩ : ByteArray).size ≤ 1073741824 := by rw [e0]; omega
  have hsz2 : bs.length + (⟨s.toArray⟩ : ByteArray).size ≤ 1073741824 := by rw [e0]; exact hlen
  have HE0 := hide e0
  clear e0
  go_enter Tryd.func12, Tryd.ntmps12
  go_wp2_with (go_at_call 26; refine (copyCheck_any HHB.out HHA.out hl).mono ?_)
  rintro e w1 ⟨rfl, hb1, hf1⟩
  have c1 : w1.cell? ⟨b, 1, none⟩ = some v := hb1.cell 1
  have hown1 := own_keep HOWN.out hf1 (fun g hg => by rw [List.mem_singleton.1 hg]; exact HNE.out)
  have hbl1 : base ≤ w1.heap.size := Nat.le_trans hbl hf1.size
  go_wp2_with (at_builtin; refine Lib.wpList_append_own_string _ rfl _ _ 41 9 rfl base 5 i0 Tryd.underlying41 Tryd.underlying9 HI0.out HZ0.out HZ1.out HZ2.out _ _ _ rfl hown1 ⟨s.toArray⟩ rfl ?c3 ?c4 ?c5 ?_)
  case c3 => unfold maxLen; omega
  case c4 => omega
  case c5 => exact hbl1
  intro v' w2 hown' hg hz
  have HZ := hide hz
  clear hz
  rw [show u8s bs ++ Lib.strCells ⟨s.toArray⟩ = u8s (bs ++ s) from by rw [u8s_append]; rfl, show bs.length + s.length = (bs ++ s).length by rw [List.length_append]] at hown'
  have hb2 := hb1.grown hg (fun e => HNE.out e.symm)
  have z1 := hb2.frozen 1
  have d1 : w2.cell? ⟨b, 1, none⟩ = some v := hb2.cell 1
  have d0 : w2.cell? ⟨b, 0, none⟩ = some (.pointer (some ⟨b, 0, none⟩)) := hb2.cell 0
  have HP := hide (Bu.put hlo hb1 hf1 hbw ht hown1 HNE.out hown' hg (fun h => by
    have h1 := List.append_eq_nil_iff.1 h
    exact HZ.out.2 ⟨HNZ.out h1.1, h1.2⟩))
  have hfm := own_slice hown'
  obtain ⟨A', c', rfl⟩ := hfm
  clear hown' hg hown1 hb1 hb2 c1
  go_wp2
  go_ret2
  exact ⟨rfl, by have h := HP.out; rw [List.length_append] at h; exact h⟩
set_option maxRecDepth 100000 in
set_option maxHeartbeats 1000000 in
theorem wbyte_any {w : World} {base b : Nat} {t : TypeId} {bs : List UInt8} (h : Bu w base t b bs) (hl : Lies t) (ht : 5 ≠ t) (ci : Int) (c : UInt8) (hci : ci = c.toNat) (hlen : bs.length ≤ 1073741824) :
    Calls Tryd.prog 14 #[.pointer (some ⟨b, 0, none⟩), .int .u8 ci] w fun e w' => e = .returned .nilIface ∧ Grew w base t b (bs ++ [c]) w' := by
  have hbw := h.lt
  have hbl := h.base_le
  obtain ⟨hlo, a, v, hb, ha, hown, hne, hnz⟩ := h
  have HHB := hide hb
  have HHA := hide ha
  have HOWN := hide hown
  have HNE := hide hne
  have HCI := hide hci
  clear hb ha hown hne hci hnz
  go_enter Tryd.func14, Tryd.ntmps14
  go_wp2_with (go_at_call 26; refine (copyCheck_any HHB.out HHA.out hl).mono ?_)
  rintro e w1 ⟨rfl, hb1, hf1⟩
  have c1 : w1.cell? ⟨b, 1, none⟩ = some v := hb1.cell 1
  have hown1 := own_keep HOWN.out hf1 (fun g hg => by rw [List.mem_singleton.1 hg]; exact HNE.out)
  have hbl1 : base ≤ w1.heap.size := Nat.le_trans hbl hf1.size
  have hbw1 := hb1.lt
  go_wp2_with (at_builtin; refine app_u8 rfl (.tmp 11) (.tmp 13) rfl _ bs w1 base _ _ c HCI.out rfl rfl hown1 rfl hlen hbl1 ?_)
  intro v' w2 hown' hg _
  rw [show bs.length + 1 = (bs ++ [c]).length by rw [List.length_append]; rfl] at hown'
  have hb2 : Blk w2 b t #[.pointer (some ⟨b, 0, none⟩), v] := hb1.keep hg (fun hm => HNE.out (by simpa using hm))
  have z1 := hb2.frozen 1
  have d1 : w2.cell? ⟨b, 1, none⟩ = some v := hb2.cell 1
  have d0 : w2.cell? ⟨b, 0, none⟩ = some (.pointer (some ⟨b, 0, none⟩)) := hb2.cell 0
  have HP := hide (Bu.put2 hlo hb1 hf1 ht hown1 HNE.out hown' hg (fun h => by simp at h))
  have hfm := own_slice hown'
  obtain ⟨A', c', rfl⟩ := hfm
  clear hown' hg hown1 hb1 hb2 c1
  go_wp2
  go_ret
  exact ⟨rfl, by have h := HP.out; rw [List.length_append] at h; exact h⟩
theorem blen_any {w : World} {base b : Nat} {t : TypeId} {bs : List UInt8} (h : Bu w base t b bs) :
    Calls Tryd.prog 16 #[.pointer (some ⟨b, 0, none⟩)] w fun e w' => e = .returned (.int .i64 bs.length) ∧ w = w' := by
  obtain ⟨hlo, a, v, hb, ha, hown, hne, hnz⟩ := h
  obtain ⟨A', c', rfl⟩ := own_slice hown
  have c1 : w.cell? ⟨b, 1, none⟩ = some (.slice A' bs.length c') := hb.cell 1
  clear hb ha hown hne hnz
  go_enter Tryd.func16, Tryd.ntmps16
  go_wp2
  go_ret
  exact ⟨rfl, rfl⟩
theorem freeze_fr (w : World) (g n : Nat) : Fr [g] w (w.freeze ⟨g, 0, none⟩ n) := by
  unfold World.freeze
  by_cases h0 : n = 0
  · rw [if_pos h0]; exact Fr.refl _ _
  · rw [if_neg h0]
    exact ⟨rfl, rfl, rfl, by simp, fun k _ hk => by
      have hne : g ≠ k := fun e => hk (by simp [e])
      simp [Array.getElem?_modify, hne]⟩
set_option maxRecDepth 100000 in
set_option maxHeartbeats 2000000 in
theorem bstring_any {w : World} {base b : Nat} {t : TypeId} {bs : List UInt8} (h : Bu w base t b bs) (hlen : bs.length ≤ 1073741824) :
    Calls Tryd.prog 17 #[.pointer (some ⟨b, 0, none⟩)] w fun e w' => e = .returned (.string ⟨bs.toArray⟩) ∧ FrB base b w w' := by
  obtain ⟨hlo, a, v, hb, ha, hown, hne, hnz⟩ := h
  by_cases h0 : bs = []
  · have hv := hnz h0
    subst hv
    subst h0
    have hUS := fun W q => Lib.run_unsafeString_none (P := Tryd.prog) W 75 3 9 q
    have c1 : w.drew.cell? ⟨b, 1, none⟩ = some (.slice none 0 0) := hb.drew.cell 1
    have hSD : (Builtin.unsafeSliceData_ #[41] 75 #[.slice none 0 0]).run Tryd.prog w.drew = .ok (.pointer none) w.drew := rfl
    clear hb ha hown hne hnz
    go_enter Tryd.func17, Tryd.ntmps17
    go_wp2
    go_region
    all_goals (go_wp2; go_ret; exact ⟨rfl, FrB.of0 (Fr.refl _ _).drew⟩)
  · have hl0 : bs.length ≠ 0 := by simpa using h0
    obtain ⟨g, cap, cur, rfl, hbg, hg, hnc, hcm, hcs, htake⟩ : ∃ g cap cur, v = .slice (some ⟨g, 0, none⟩) bs.length cap ∧ base ≤ g ∧ w.heap[g]? = some (.cells cur 5 (0, 0)) ∧ bs.length ≤ cap ∧ cap ≤ maxLen ∧ cur.size = cap * 1 ∧ cur.toList.take (bs.length * 1) = u8s bs := by
      rcases hown.2 with ⟨_, hz⟩ | ⟨g, cap, cur, hv, r⟩
      · exact absurd hz hl0
      · exact ⟨g, cap, cur, hv, r⟩
    have c1 : w.drew.cell? ⟨b, 1, none⟩ = some (.slice (some ⟨g, 0, none⟩) bs.length cap) := hb.drew.cell 1
    have hSD : (Builtin.unsafeSliceData_ #[41] 75 #[.slice (some ⟨g, 0, none⟩) bs.length cap]).run Tryd.prog w.drew = .ok (.pointer (some ⟨g, 0, none⟩)) w.drew :=
      Lib.run_unsafeSliceData_row _ _ _ _ _ _ (by omega)
    have hUS : (Builtin.unsafeString_ #[75, 3] 9 #[.pointer (some ⟨g, 0, none⟩), .int .i64 bs.length]).run Tryd.prog w.drew = .ok (.string ⟨bs.toArray⟩) (w.drew.freeze ⟨g, 0, none⟩ bs.length) := by
      refine Lib.run_unsafeString_row w.drew 75 3 9 5 Tryd.underlying75 (by kernel_rfl) g cur.size (by have hg' : w.drew.heap[g]? = some (.cells cur 5 (0, 0)) := hg; simp [World.shape?, hg']) bs h0 (by omega) (by omega) ?_
      intro j x hx
      exact hown.cells (g := g) rfl j (.int .u8 x.toNat) (u8s_at hx)
    have HS : Hid (FrB base b w (w.drew.freeze ⟨g, 0, none⟩ bs.length)) := hide (FrB.of_fr (S := [g]) ((Fr.refl [g] w).drew.trans (freeze_fr _ _ _)) (fun k hk => by rw [List.mem_singleton.1 hk]; exact ⟨hbg, .inr ⟨_, _, hg⟩⟩))
    clear hb ha hown hne hnz hg hbg hnc hcm hcs htake hl0 h0
    go_enter Tryd.func17, Tryd.ntmps17
    go_wp2
    go_region
    all_goals (go_wp2; go_ret; exact ⟨rfl, HS.out⟩)
end Go.Proofs.YtndfdekcdhlgoaaDoor
