/- NumZeros: for every number: noughts ahead of its digits change nothing, up to nine digits; with a byte of any kind in place of a digit the text is a number just where that byte is a digit. No condition. -/
import Derived.Test.YtclmjhpbhmbdaaaPNumZerosx2
namespace Go.Proofs.Ytclmjhpbhmbdaaa.Pure
open Go.RowKit Go.Proofs.Ytclmjhpbhmbdaaa.PNumZeros Go.Proofs.YtclmjhpbhmbdaaaW.PrintWords Go.Proofs.YtclmjhpbhmbdaaaW.PrintLast

theorem w64 (x : Int) : IntKind.u64.wrap x = x % 18446744073709551616 := IntKind.wrap_u64 x
theorem r64 (a : Int) (h : (Lit.int .u64 a).wf = true) : 0 ≤ a ∧ a < 18446744073709551616 := by
  simp [Lit.wf, IntKind.min, IntKind.max, IntKind.bits, IntKind.signed] at h; omega
theorem r32 (a : Int) (h : (Lit.int .u32 a).wf = true) : 0 ≤ a ∧ a < 4294967296 := by
  simp [Lit.wf, IntKind.min, IntKind.max, IntKind.bits, IntKind.signed] at h; omega
theorem r16 (a : Int) (h : (Lit.int .u16 a).wf = true) : 0 ≤ a ∧ a < 65536 := by
  simp [Lit.wf, IntKind.min, IntKind.max, IntKind.bits, IntKind.signed] at h; omega
theorem r8 (a : Int) (h : (Lit.int .u8 a).wf = true) : 0 ≤ a ∧ a < 256 := by
  simp [Lit.wf, IntKind.min, IntKind.max, IntKind.bits, IntKind.signed] at h; omega
theorem known : wicketmanlaw01_known.f = some true := by kernel_rfl

theorem bytesOf_data (s : ByteArray) : bytesOf s = s.data.toList.map fun b => (b.toNat : Int) := rfl
theorem bytesOf_append (s t : ByteArray) : bytesOf (s ++ t) = bytesOf s ++ bytesOf t := by
  unfold bytesOf; rw [ByteArray.data_append]; simp
theorem bytesOf_nums (xs : List Int) (h : ∀ x ∈ xs, 0 ≤ x ∧ x < 256) : bytesOf (strOfNums xs) = xs := by
  unfold bytesOf
  rw [strOfNums_data, List.map_map]
  conv => rhs; rw [← List.map_id xs]
  apply List.map_congr_left
  intro x hx
  have := h x hx
  simp only [Function.comp, UInt8.toNat_ofNat', id]
  omega
theorem decV_append (a b : List Int) : ∀ n : Int, Hand.decV (a ++ b) n = (Hand.decV a n).bind fun m => Hand.decV b m := by
  induction a with
  | nil => intro n; rfl
  | cons c l ih =>
    intro n
    rw [List.cons_append]
    by_cases h : 48 ≤ c ∧ c ≤ 57
    · rw [Hand.decV_digit _ _ _ h.1 h.2, Hand.decV_digit _ _ _ h.1 h.2, ih]
    · rw [Hand.decV_none _ _ _ h, Hand.decV_none _ _ _ h]; rfl
/-- l are the digits of n -/
structure Dig (l : List Int) (n : Int) : Prop where
  tells : ∀ m, Hand.decV l m = some (m * 10 ^ l.length + n)
  pos : 1 ≤ l.length
  less : n < 10 ^ l.length
  least : l.length = 1 ∨ 10 ^ (l.length - 1) ≤ n
theorem Dig.one (n : Int) (h0 : 0 ≤ n) (h : n < 10) : Dig [48 + n] n := by
  refine ⟨fun m => ?_, by simp, by simpa using h, .inl rfl⟩
  rw [Hand.decV_digit _ _ _ (by omega) (by omega)]
  show some _ = some _
  congr 1
  simp
  omega
theorem Dig.more {l : List Int} {n : Int} (h : Dig l (n / 10)) (h0 : 10 ≤ n) : Dig (l ++ [48 + n % 10]) n := by
  have hl : (l ++ [48 + n % 10]).length = l.length + 1 := by simp
  refine ⟨fun m => ?_, by omega, ?_, .inr ?_⟩
  · rw [decV_append, h.tells, Option.bind_some, Hand.decV_digit _ _ _ (by omega) (by omega), hl, Int.pow_succ]
    show some _ = some _
    congr 1
    have e : m * (10 ^ l.length * 10) = m * 10 ^ l.length * 10 := by rw [Int.mul_assoc]
    rw [e]; omega
  · rw [hl, Int.pow_succ]; have := h.less; omega
  · rw [hl, Nat.add_sub_cancel]
    rcases h.least with e | e
    · rw [e]; simp; exact h0
    · have hp := h.pos
      have e2 : l.length = (l.length - 1) + 1 := by omega
      rw [e2, Int.pow_succ]; omega
theorem digits_loop (d : Nat) : ∀ (k : Nat) (n : Int) (s : ByteArray), 0 ≤ n → n < 10 ^ (d + 1) → n < 9223372036854775808 → d < k → s.size + d ≤ 1000 →
    ∃ t l, wicketmanlaw01_digits.l0 k n s = some t ∧ Dig l n ∧ bytesOf t = l ++ bytesOf s := by
  induction d with
  | zero =>
    intro k n s h0 h1 hb hk hs
    have h1' : n < 10 := by simpa using h1
    obtain ⟨k, rfl⟩ : ∃ m, k = m + 1 := ⟨k - 1, by omega⟩
    have e : wrap64 (48 + n) % 256 = 48 + n := by unfold wrap64; omega
    refine ⟨strOfNums [48 + n] ++ s, [48 + n], ?_, Dig.one n h0 h1', ?_⟩
    · simp only [wicketmanlaw01_digits.l0]
      rw [if_neg (by omega), e]
      simp only [Option.bind_some]
      rw [if_pos (by rw [strOfNums_size]; simp; omega)]
    · rw [bytesOf_append, bytesOf_nums _ (by intro x hx; simp at hx; omega)]
  | succ d ih =>
    intro k n s h0 h1 hb hk hs
    obtain ⟨k, rfl⟩ : ∃ m, k = m + 1 := ⟨k - 1, by omega⟩
    simp only [wicketmanlaw01_digits.l0]
    by_cases hn : n > 9
    · have e1 : Int.tmod n 10 = n % 10 := Int.tmod_eq_emod_of_nonneg h0
      have e2 : Int.tdiv n 10 = n / 10 := Int.tdiv_eq_ediv_of_nonneg h0
      have e3 : wrap64 (48 + n % 10) % 256 = 48 + n % 10 := by unfold wrap64; omega
      have e4 : wrap64 (n / 10) = n / 10 := by unfold wrap64; omega
      have hp : n / 10 < 10 ^ (d + 1) := by rw [Int.pow_succ] at h1; omega
      have hsz : (strOfNums [48 + n % 10]).size = 1 := by rw [strOfNums_size]; rfl
      obtain ⟨t, l, ht, hd, hb2⟩ := ih k (n / 10) (strOfNums [48 + n % 10] ++ s) (by omega) hp (by omega) (by omega) (by rw [ByteArray.size_append, hsz]; omega)
      refine ⟨t, l ++ [48 + n % 10], ?_, hd.more (by omega), ?_⟩
      · rw [if_pos hn, e1, e2, e3, e4]
        simp only [Option.bind_some]
        rw [if_pos (by rw [hsz]; omega)]
        exact ht
      · rw [hb2, bytesOf_append, bytesOf_nums _ (by intro x hx; simp at hx; omega), List.append_assoc]
    · have e : wrap64 (48 + n) % 256 = 48 + n := by unfold wrap64; omega
      refine ⟨strOfNums [48 + n] ++ s, [48 + n], ?_, Dig.one n h0 (by omega), ?_⟩
      · rw [if_neg hn, e]
        simp only [Option.bind_some]
        rw [if_pos (by rw [strOfNums_size]; simp; omega)]
      · rw [bytesOf_append, bytesOf_nums _ (by intro x hx; simp at hx; omega)]
theorem digits_eq (n : Int) (h0 : 0 ≤ n) (h1 : n < 4294967296) (k : Nat) (hk : 10 < k) : ∃ t l, wicketmanlaw01_digits.f k n = some t ∧ Dig l n ∧ bytesOf t = l := by
  obtain ⟨t, l, ht, hd, hb⟩ := digits_loop 9 k n ⟨#[]⟩ h0 (Int.lt_of_lt_of_le h1 (by omega)) (by omega) (by omega) (by show 0 + 9 ≤ 1000; omega)
  refine ⟨t, l, ht, hd, ?_⟩
  rw [hb]
  show l ++ [] = l
  rw [List.append_nil]
theorem Dig.size {l : List Int} {n : Int} (h : Dig l n) (k : Nat) (hk : 1 ≤ k) : l.length ≤ k ↔ n < 10 ^ k := by
  constructor
  · intro hl
    have := h.less
    have hp : (10 : Int) ^ l.length ≤ 10 ^ k := by
      have h2 : 10 ^ l.length ≤ 10 ^ k := Nat.pow_le_pow_right (by omega) hl
      have h3 : ((10 ^ l.length : Nat) : Int) ≤ ((10 ^ k : Nat) : Int) := Int.ofNat_le.mpr h2
      rw [Int.natCast_pow, Int.natCast_pow] at h3
      exact h3
    omega
  · intro hn
    rcases h.least with e | e
    · omega
    · refine Nat.le_of_not_lt fun hl => ?_
      have h2 : 10 ^ k ≤ 10 ^ (l.length - 1) := Nat.pow_le_pow_right (by omega) (by omega)
      have h3 : ((10 ^ k : Nat) : Int) ≤ ((10 ^ (l.length - 1) : Nat) : Int) := Int.ofNat_le.mpr h2
      rw [Int.natCast_pow, Int.natCast_pow] at h3
      have e4 : ((10 : Nat) : Int) = 10 := rfl
      rw [e4] at h3
      omega
theorem decV_some (l : List Int) : ∀ m : Int, (∀ x ∈ l, 48 ≤ x ∧ x ≤ 57) → ∃ v, Hand.decV l m = some v ∧ v < (m + 1) * 10 ^ l.length := by
  induction l with
  | nil => intro m _; exact ⟨m, rfl, by simp; omega⟩
  | cons c l ih =>
    intro m h
    have hc := h c (by simp)
    obtain ⟨v, hv, hl⟩ := ih (10 * m + (c - 48)) (fun x hx => h x (by simp [hx]))
    refine ⟨v, by rw [Hand.decV_digit _ _ _ hc.1 hc.2]; exact hv, ?_⟩
    have hp : (0 : Int) < 10 ^ l.length := Int.pow_pos (by decide)
    have h2 : (10 * m + (c - 48) + 1) * 10 ^ l.length ≤ ((m + 1) * 10) * 10 ^ l.length := Int.mul_le_mul_of_nonneg_right (by omega) (by omega)
    rw [List.length_cons, Int.pow_succ, Int.mul_comm (10 ^ l.length) 10, ← Int.mul_assoc]
    omega
theorem decV_all (l : List Int) : ∀ m v : Int, Hand.decV l m = some v → ∀ x ∈ l, 48 ≤ x ∧ x ≤ 57 := by
  induction l with
  | nil => intro m v _ x hx; simp at hx
  | cons c l ih =>
    intro m v h x hx
    by_cases hc : 48 ≤ c ∧ c ≤ 57
    · rw [Hand.decV_digit _ _ _ hc.1 hc.2] at h
      rcases List.mem_cons.1 hx with rfl | hx
      · exact hc
      · exact ih _ _ h x hx
    · rw [Hand.decV_none _ _ _ hc] at h; cases h
theorem decV_bad (a b : List Int) (c m : Int) (hc : ¬ (48 ≤ c ∧ c ≤ 57)) : Hand.decV (a ++ c :: b) m = none := by
  rw [decV_append]
  cases Hand.decV a m with
  | none => rfl
  | some v => exact Hand.decV_none _ _ _ hc
theorem bytesOf_front (s : ByteArray) (i : Nat) : bytesOf (s.extract 0 i) = (bytesOf s).take i := by
  unfold bytesOf
  rw [ByteArray.data_extract, Array.toList_extract, List.extract, List.map_take]
  simp
theorem bytesOf_back (s : ByteArray) (i : Nat) : bytesOf (s.extract i s.size) = (bytesOf s).drop i := by
  unfold bytesOf
  rw [ByteArray.data_extract, Array.toList_extract, List.extract, List.take_of_length_le (by rw [List.length_drop, data_length]; omega), List.map_drop]

theorem decR_eq (s : ByteArray) (most : Int) : Hand.num_Decimal.f s most = some (Hand.decR s most) := rfl
/-- digits, noughts ahead -/
structure Zer (s : ByteArray) (z : Nat) (l : List Int) (n : Int) : Prop where
  is : bytesOf s = List.replicate z 48 ++ l
  dig : Dig l n
theorem decV_zeros (z : Nat) (l : List Int) : Hand.decV (List.replicate z 48 ++ l) 0 = Hand.decV l 0 := by
  induction z with
  | zero => rfl
  | succ z ih => rw [List.replicate_succ, List.cons_append, Hand.decV_digit _ _ _ (by omega) (by omega)]; exact ih

theorem decR_some (s : ByteArray) (v most : Int) (h1 : 1 ≤ s.size) (h9 : s.size ≤ 9) (hv : Hand.decV (bytesOf s) 0 = some v) (hm : v ≤ most) : Hand.decR s most = (v, true) := by
  unfold Hand.decR
  rw [if_neg (by omega), hv]
  exact if_neg (by omega)
theorem decR_none (s : ByteArray) (most : Int) (h1 : 1 ≤ s.size) (h9 : s.size ≤ 9) (hv : Hand.decV (bytesOf s) 0 = none) : Hand.decR s most = (0, false) := by
  unfold Hand.decR
  rw [if_neg (by omega), hv]
theorem decR_long (s : ByteArray) (most : Int) (h9 : 9 < s.size) : Hand.decR s most = (0, false) := by
  unfold Hand.decR
  rw [if_pos (by omega)]
theorem bound9 (v : Int) (m : Nat) (h : m ≤ 9) (hv : v < (0 + 1) * 10 ^ m) : v ≤ 999999999 := by
  have h2 : 10 ^ m ≤ 10 ^ 9 := Nat.pow_le_pow_right (by omega) h
  have h3 := Int.ofNat_le.mpr h2
  rw [Int.natCast_pow, Int.natCast_pow] at h3
  have h4 : ((10 : Nat) : Int) ^ 9 = 1000000000 := by rfl
  rw [h4] at h3
  have h5 : ((10 : Nat) : Int) = 10 := rfl
  rw [h5] at h3
  omega
theorem size_front (s : ByteArray) (q : Nat) (h : q < s.size) : (s.extract 0 q).size = q := by rw [ByteArray.size_extract]; omega
theorem size_back (s : ByteArray) (q : Nat) : (s.extract (q + 1) s.size).size = s.size - (q + 1) := by rw [ByteArray.size_extract]; omega
theorem at_byte (s : ByteArray) (q : Nat) (c : Int) (hq1 : q < s.size) (hc : 0 ≤ c ∧ c < 256) (hall : ∀ x ∈ bytesOf s, 48 ≤ x ∧ x ≤ 57) :
    (Hand.decR (s.extract 0 q ++ strOfNums [c] ++ s.extract (q + 1) s.size) 999999999).2 = (decide (s.size ≤ 9) && (decide (48 ≤ c) && decide (c ≤ 57))) := by
  have z1 := size_front s q hq1
  have z2 : (strOfNums [c]).size = 1 := strOfNums_size [c]
  have z3 := size_back s q
  have hcl : ∀ x ∈ [c], 0 ≤ x ∧ x < 256 := by intro x hx; rw [List.mem_singleton] at hx; subst hx; exact hc
  have hb : bytesOf (s.extract 0 q ++ strOfNums [c] ++ s.extract (q + 1) s.size) = (bytesOf s).take q ++ c :: (bytesOf s).drop (q + 1) := by
    rw [bytesOf_append, bytesOf_append, bytesOf_front, bytesOf_back, bytesOf_nums _ hcl, List.append_assoc]; rfl
  have hs2 : (s.extract 0 q ++ strOfNums [c] ++ s.extract (q + 1) s.size).size = s.size := by rw [ByteArray.size_append, ByteArray.size_append, z1, z2, z3]; omega
  have hsz1 : 1 ≤ s.size := by omega
  by_cases h9 : s.size ≤ 9
  · rw [decide_eq_true h9, Bool.true_and]
    by_cases hcd : 48 ≤ c ∧ c ≤ 57
    · obtain ⟨v, hv2, hlt⟩ := decV_some ((bytesOf s).take q ++ c :: (bytesOf s).drop (q + 1)) 0 (by
        intro x hx
        rcases List.mem_append.1 hx with h | h
        · exact hall x (List.mem_of_mem_take h)
        · rcases List.mem_cons.1 h with rfl | h
          · exact hcd
          · exact hall x (List.mem_of_mem_drop h))
      have hlen : ((bytesOf s).take q ++ c :: (bytesOf s).drop (q + 1)).length ≤ 9 := by rw [← hb, bytesOf_length, hs2]; exact h9
      have hbd := bound9 v _ hlen hlt
      rw [decR_some _ v 999999999 (by rw [hs2]; exact hsz1) (by rw [hs2]; exact h9) (by rw [hb]; exact hv2) hbd, decide_eq_true hcd.1, decide_eq_true hcd.2]
      rfl
    · rw [decR_none _ 999999999 (by rw [hs2]; exact hsz1) (by rw [hs2]; exact h9) (by rw [hb]; exact decV_bad _ _ _ _ hcd)]
      by_cases g : 48 ≤ c
      · rw [decide_eq_true g, Bool.true_and, decide_eq_false (fun h => hcd ⟨g, h⟩)]
      · rw [decide_eq_false g, Bool.false_and]
  · rw [decR_long _ 999999999 (by rw [hs2]; exact Nat.lt_of_not_le h9), decide_eq_false h9, Bool.false_and]
theorem conds (s : ByteArray) (q : Nat) (c : Int) (hq1 : q < s.size) (hz : s.size ≤ 7 + 5) : ¬ (s.size : Int) = 0 ∧ (0 : Int) ≤ (q : Int) ∧ (q : Int) ≤ (s.size : Int) ∧ (s.extract 0 q).size + (strOfNums [c]).size ≤ 9223372036854775807 ∧
    (0 : Int) ≤ ((q + 1 : Nat) : Int) ∧ ((q + 1 : Nat) : Int) ≤ (s.size : Int) ∧ (s.extract 0 q ++ strOfNums [c]).size + (s.extract (q + 1) s.size).size ≤ 9223372036854775807 := by
  have z1 := size_front s q hq1
  have z2 : (strOfNums [c]).size = 1 := strOfNums_size [c]
  have z3 := size_back s q
  have z4 := ByteArray.size_append (a := s.extract 0 q) (b := strOfNums [c])
  refine ⟨?_, ?_, ?_, ?_, ?_, ?_, ?_⟩ <;> omega
set_option maxHeartbeats 1000000 in
theorem last (n z at_ c : Int) (hn : 0 ≤ n ∧ n < 65536) (ha : 0 ≤ at_ ∧ at_ < 256) (hc : 0 ≤ c ∧ c < 256) (l : List Int) (hd : Dig l n) (s : ByteArray) (Z : Nat) (hs : bytesOf s = List.replicate Z 48 ++ l) (hZ : Z ≤ 7) (i : Int) (hi : ¬ i < wrap64 (Int.tmod z 8)) (k : Nat) :
    wicketmanlaw01_NumZeros.l0 (k + 1) n z at_ c s i = some true := by
  have hl5 : l.length ≤ 5 := (hd.size 5 (by omega)).2 (Int.lt_of_lt_of_le hn.2 (by omega))
  have hl1 := hd.pos
  have hsz : s.size = Z + l.length := by rw [← bytesOf_length, hs]; simp
  have hall : ∀ x ∈ bytesOf s, 48 ≤ x ∧ x ≤ 57 := by
    rw [hs]; intro x hx
    rcases List.mem_append.1 hx with h | h
    · have := (List.mem_replicate.1 h).2; omega
    · exact decV_all l 0 _ (hd.tells 0) x h
  have hv : Hand.decV (bytesOf s) 0 = some n := by rw [hs, decV_zeros, hd.tells 0]; simp
  have e1 : Hand.decR s 100000 = if s.size ≤ 9 then (n, true) else (0, false) := by
    by_cases h9 : s.size ≤ 9
    · rw [if_pos h9]; exact decR_some s n 100000 (by omega) h9 hv (by omega)
    · rw [if_neg h9]; exact decR_long s 100000 (by omega)
  have ew : wrap64 at_ = at_ := by unfold wrap64; omega
  obtain ⟨q, hq⟩ : ∃ q : Nat, at_ % (s.size : Int) = q := ⟨(at_ % (s.size : Int)).toNat, by have := Int.emod_nonneg at_ (show (s.size : Int) ≠ 0 by omega); omega⟩
  have hq1 : q < s.size := by have := Int.emod_lt_of_pos at_ (show (0 : Int) < s.size by omega); omega
  have em : Int.tmod at_ (s.size : Int) = q := by rw [Int.tmod_eq_emod_of_nonneg ha.1]; exact hq
  clear hq
  have ew1 : wrap64 ((q : Int) + 1) = ((q + 1 : Nat) : Int) := by unfold wrap64; omega
  have z1 := size_front s q hq1
  have z2 : (strOfNums [c]).size = 1 := by rw [strOfNums_size]; rfl
  have z3 := size_back s q
  have e2 := at_byte s q c hq1 hc hall
  have en : wrap64 n = n := by unfold wrap64; omega
  simp only [wicketmanlaw01_NumZeros.l0]
  rw [if_neg hi]
  simp only [decR_eq, Option.bind_some, em, ew, ew1, Int.toNat_natCast, known, if_true, en]
  obtain ⟨c1, c2, c3, c4, c5, c6, c7⟩ := conds s q c hq1 (by rw [hsz]; exact Nat.add_le_add hZ hl5)
  rw [if_neg c1, if_pos c2, if_pos c3, if_pos c4, if_pos c5, if_pos c6, if_pos c7]
  simp only [e1, e2]
  by_cases h9 : s.size ≤ 9
  · have h9' : (s.size : Int) ≤ 9 := Int.ofNat_le.mpr h9
    simp only [if_pos h9, decide_eq_true h9, decide_eq_true h9', Bool.true_and, if_pos h9', if_true, beq_self_eq_true]
    by_cases g : c ≥ 48
    · rw [if_pos g, decide_eq_true (show 48 ≤ c from g), Bool.true_and]; simp
    · rw [if_neg g, decide_eq_false (show ¬ 48 ≤ c from g), Bool.false_and]; rfl
  · have h9' : ¬ (s.size : Int) ≤ 9 := fun h => h9 (Int.ofNat_le.mp h)
    simp only [if_neg h9, decide_eq_false h9, decide_eq_false h9', Bool.false_and, if_neg h9']
    rfl
theorem zeros (n z at_ c : Int) (hn : 0 ≤ n ∧ n < 65536) (hz : 0 ≤ z ∧ z < 256) (ha : 0 ≤ at_ ∧ at_ < 256) (hc : 0 ≤ c ∧ c < 256) (l : List Int) (hd : Dig l n) (d : Nat) :
    ∀ (i : Nat) (s : ByteArray) (k : Nat), (z % 8 - i : Int) = d → d < k → bytesOf s = List.replicate i 48 ++ l → wicketmanlaw01_NumZeros.l0 k n z at_ c s i = some true := by
  have et : Int.tmod z 8 = z % 8 := Int.tmod_eq_emod_of_nonneg hz.1
  have ew : wrap64 (z % 8) = z % 8 := by unfold wrap64; omega
  have hl5 : l.length ≤ 5 := (hd.size 5 (by omega)).2 (Int.lt_of_lt_of_le hn.2 (by omega))
  induction d with
  | zero =>
    intro i s k hi hk hs
    obtain ⟨k, rfl⟩ : ∃ m, k = m + 1 := ⟨k - 1, by omega⟩
    exact last n z at_ c hn ha hc l hd s i hs (by omega) i (by rw [et, ew]; omega) k
  | succ d ih =>
    intro i s k hi hk hs
    obtain ⟨k, rfl⟩ : ∃ m, k = m + 1 := ⟨k - 1, by omega⟩
    have hsz : s.size = i + l.length := by rw [← bytesOf_length, hs]; simp
    have e1 : wrap64 ((i : Int) + 1) = ((i + 1 : Nat) : Int) := by unfold wrap64; omega
    simp only [wicketmanlaw01_NumZeros.l0]
    have hlt : (i : Int) < z % 8 := by clear et ew e1 ih; omega
    have hle : 1 + s.size ≤ 9223372036854775807 := by clear et ew e1 ih; omega
    rw [et, ew, if_pos hlt, if_pos hle, e1]
    refine ih (i + 1) _ k (by omega) (by omega) ?_
    rw [bytesOf_append, hs]
    rfl
theorem NumZeros : wicketmanlaw01_NumZeros.Pure := by
  intro n z at_ c h0 h1 h2 h3
  replace h0 := r16 n h0
  replace h1 := r8 z h1
  replace h2 := r8 at_ h2
  replace h3 := r8 c h3
  refine ⟨20, ?_⟩
  have en : wrap64 n = n := by unfold wrap64; omega
  unfold wicketmanlaw01_NumZeros.f
  rw [en]
  obtain ⟨t, l, ht, hd, hb⟩ := digits_eq n h0.1 (by omega) 20 (by omega)
  rw [ht, Option.bind_some]
  exact zeros n z at_ c h0 h1 h2 h3 l hd (z % 8).toNat 0 t 20 (by omega) (by omega) (by rw [hb]; rfl)

end Go.Proofs.Ytclmjhpbhmbdaaa.Pure
