/- NumAdds: Add, Past and Decimal of any numbers and texts are what the reference says; and a number's digits tell it. -/
import Derived.Test.YtclmjhpbhmbdaaaProg
import Derived.Below
import Derived.Deep.Draws
import Derived.Deep.AppendLies
import Derived.Maps.AppendAt
import Derived.OwnWalk
import Derived.Laws.BytesArg
import Derived.Laws.MakeOwn
import Derived.Laws.OwnMore
import Derived.Deep.OwnRows
import Derived.Tactics
import Derived.Lib.ConvBytes
import Derived.Laws.Slices
import Derived.WalkKit
import Derived.KernelRfl
import Derived.RowKit3
import Derived.Deep.LoopGhost
import Derived.Deep.QuietTactic
import Derived.BigQuiet
import Derived.WideLaws
import Derived.Deep.DeepCutAuto
import Derived.Deep.CutBlock
import Derived.Deep.RegionHeld3
import Derived.Laws.Rows
import Derived.Lib.AppendStr
import Derived.ArgAppend
import Derived.Laws.IdiomCopy
import Derived.OrdersHeld
import Derived.Laws.BitsLemmas
import Derived.RowKit
import Derived.Test.YtclmjhpbhmbdaaaWWords
import Derived.Test.YtclmjhpbhmbdaaaWLast
import Derived.Test.YtclmjhpbhmbdaaaWTab
import Derived.Test.YtclmjhpbhmbdaaaWFour
import Derived.Test.YtclmjhpbhmbdaaaWQPut
import Derived.Test.YtclmjhpbhmbdaaaWApart
import Derived.Test.YtclmjhpbhmbdaaaWArr
import Derived.Test.YtclmjhpbhmbdaaaWZeros
import Derived.Test.YtclmjhpbhmbdaaaWFoot
import Derived.Test.YtclmjhpbhmbdaaaWKept
import Derived.Test.YtclmjhpbhmbdaaaWShare
import Derived.Test.YtclmjhpbhmbdaaaWN
import Derived.Test.YtclmjhpbhmbdaaaWFootNe
import Derived.Test.YtclmjhpbhmbdaaaWAt
import Derived.Test.YtclmjhpbhmbdaaaWEqStruct
import Derived.Test.YtclmjhpbhmbdaaaWRepsOne
import Derived.Test.YtclmjhpbhmbdaaaWInv
import Derived.Test.YtclmjhpbhmbdaaaWInvWords
import Derived.Test.YtclmjhpbhmbdaaaWGuard
import Derived.Test.YtclmjhpbhmbdaaaWNEv
import Derived.Test.YtclmjhpbhmbdaaaWMore
import Derived.Outline
import Derived.Test.YtclmjhpbhmbdaaaHClk
import Derived.Test.YtclmjhpbhmbdaaaHGet
import Derived.Test.YtclmjhpbhmbdaaaPNumAddsx2
import Derived.Test.YtclmjhpbhmbdaaaPNumAddsx3
import Derived.Test.YtclmjhpbhmbdaaaPNumAddsx4
import Derived.Test.YtclmjhpbhmbdaaaPNumAddsx5
import Derived.Test.YtclmjhpbhmbdaaaHDec
namespace Go.Proofs.Ytclmjhpbhmbdaaa.Hand
open Go.RowKit Go.Proofs.YtclmjhpbhmbdaaaW.PrintWords Go.Proofs.YtclmjhpbhmbdaaaW.PrintLast Go.Proofs.YtclmjhpbhmbdaaaW.PrintMore
attribute [local go_sem] max2_int min2_int max_two min_two max_three min_three max_four min_four
set_option linter.unusedVariables false
set_option linter.unusedSimpArgs false

open Go.Proofs.Ytclmjhpbhmbdaaa.PNumAdds
theorem bytesOf_data (s : ByteArray) : bytesOf s = s.data.toList.map fun b => (b.toNat : Int) := rfl
theorem bytesOf_append (s t : ByteArray) : bytesOf (s ++ t) = bytesOf s ++ bytesOf t := by
  unfold bytesOf; rw [ByteArray.data_append]; simp
theorem bytesOf_nums (xs : List Int) (h : ∀ x ∈ xs, 0 ≤ x ∧ x < 256) : bytesOf (strOfNums xs) = xs := by
  unfold bytesOf
  rw [strOfNums_data, List.map_map]
  conv => rhs; rw [← List.map_id xs]
  apply List.map_congr_left
  intro x hx
  have := h x hx
  simp only [Function.comp, UInt8.toNat_ofNat', id]
  omega
theorem decV_append (a b : List Int) : ∀ n : Int, Hand.decV (a ++ b) n = (Hand.decV a n).bind fun m => Hand.decV b m := by
  induction a with
  | nil => intro n; rfl
  | cons c l ih =>
    intro n
    rw [List.cons_append]
    by_cases h : 48 ≤ c ∧ c ≤ 57
    · rw [Hand.decV_digit _ _ _ h.1 h.2, Hand.decV_digit _ _ _ h.1 h.2, ih]
    · rw [Hand.decV_none _ _ _ h, Hand.decV_none _ _ _ h]; rfl
/-- l are the digits of n -/
structure Dig (l : List Int) (n : Int) : Prop where
  tells : ∀ m, Hand.decV l m = some (m * 10 ^ l.length + n)
  pos : 1 ≤ l.length
  less : n < 10 ^ l.length
  least : l.length = 1 ∨ 10 ^ (l.length - 1) ≤ n
theorem Dig.one (n : Int) (h0 : 0 ≤ n) (h : n < 10) : Dig [48 + n] n := by
  refine ⟨fun m => ?_, by simp, by simpa using h, .inl rfl⟩
  rw [Hand.decV_digit _ _ _ (by omega) (by omega)]
  show some _ = some _
  congr 1
  simp
  omega
theorem Dig.more {l : List Int} {n : Int} (h : Dig l (n / 10)) (h0 : 10 ≤ n) : Dig (l ++ [48 + n % 10]) n := by
  have hl : (l ++ [48 + n % 10]).length = l.length + 1 := by simp
  refine ⟨fun m => ?_, by omega, ?_, .inr ?_⟩
  · rw [decV_append, h.tells, Option.bind_some, Hand.decV_digit _ _ _ (by omega) (by omega), hl, Int.pow_succ]
    show some _ = some _
    congr 1
    have e : m * (10 ^ l.length * 10) = m * 10 ^ l.length * 10 := by rw [Int.mul_assoc]
    rw [e]; omega
  · rw [hl, Int.pow_succ]; have := h.less; omega
  · rw [hl, Nat.add_sub_cancel]
    rcases h.least with e | e
    · rw [e]; simp; exact h0
    · have hp := h.pos
      have e2 : l.length = (l.length - 1) + 1 := by omega
      rw [e2, Int.pow_succ]; omega
theorem digits_loop (d : Nat) : ∀ (k : Nat) (n : Int) (s : ByteArray), 0 ≤ n → n < 10 ^ (d + 1) → n < 9223372036854775808 → d < k → s.size + d ≤ 1000 →
    ∃ t l, wicketmanlaw01_digits.l0 k n s = some t ∧ Dig l n ∧ bytesOf t = l ++ bytesOf s := by
  induction d with
  | zero =>
    intro k n s h0 h1 hb hk hs
    have h1' : n < 10 := by simpa using h1
    obtain ⟨k, rfl⟩ : ∃ m, k = m + 1 := ⟨k - 1, by omega⟩
    have e : wrap64 (48 + n) % 256 = 48 + n := by unfold wrap64; omega
    refine ⟨strOfNums [48 + n] ++ s, [48 + n], ?_, Dig.one n h0 h1', ?_⟩
    · simp only [wicketmanlaw01_digits.l0]
      rw [if_neg (by omega), e]
      simp only [Option.bind_some]
      rw [if_pos (by rw [strOfNums_size]; simp; omega)]
    · rw [bytesOf_append, bytesOf_nums _ (by intro x hx; simp at hx; omega)]
  | succ d ih =>
    intro k n s h0 h1 hb hk hs
    obtain ⟨k, rfl⟩ : ∃ m, k = m + 1 := ⟨k - 1, by omega⟩
    simp only [wicketmanlaw01_digits.l0]
    by_cases hn : n > 9
    · have e1 : Int.tmod n 10 = n % 10 := Int.tmod_eq_emod_of_nonneg h0
      have e2 : Int.tdiv n 10 = n / 10 := Int.tdiv_eq_ediv_of_nonneg h0
      have e3 : wrap64 (48 + n % 10) % 256 = 48 + n % 10 := by unfold wrap64; omega
      have e4 : wrap64 (n / 10) = n / 10 := by unfold wrap64; omega
      have hp : n / 10 < 10 ^ (d + 1) := by rw [Int.pow_succ] at h1; omega
      have hsz : (strOfNums [48 + n % 10]).size = 1 := by rw [strOfNums_size]; rfl
      obtain ⟨t, l, ht, hd, hb2⟩ := ih k (n / 10) (strOfNums [48 + n % 10] ++ s) (by omega) hp (by omega) (by omega) (by rw [ByteArray.size_append, hsz]; omega)
      refine ⟨t, l ++ [48 + n % 10], ?_, hd.more (by omega), ?_⟩
      · rw [if_pos hn, e1, e2, e3, e4]
        simp only [Option.bind_some]
        rw [if_pos (by rw [hsz]; omega)]
        exact ht
      · rw [hb2, bytesOf_append, bytesOf_nums _ (by intro x hx; simp at hx; omega), List.append_assoc]
    · have e : wrap64 (48 + n) % 256 = 48 + n := by unfold wrap64; omega
      refine ⟨strOfNums [48 + n] ++ s, [48 + n], ?_, Dig.one n h0 (by omega), ?_⟩
      · rw [if_neg hn, e]
        simp only [Option.bind_some]
        rw [if_pos (by rw [strOfNums_size]; simp; omega)]
      · rw [bytesOf_append, bytesOf_nums _ (by intro x hx; simp at hx; omega)]
theorem digits_eq (n : Int) (h0 : 0 ≤ n) (h1 : n < 4294967296) (k : Nat) (hk : 10 < k) : ∃ t l, wicketmanlaw01_digits.f k n = some t ∧ Dig l n ∧ bytesOf t = l := by
  obtain ⟨t, l, ht, hd, hb⟩ := digits_loop 9 k n ⟨#[]⟩ h0 (Int.lt_of_lt_of_le h1 (by omega)) (by omega) (by omega) (by show 0 + 9 ≤ 1000; omega)
  refine ⟨t, l, ht, hd, ?_⟩
  rw [hb]
  show l ++ [] = l
  rw [List.append_nil]
theorem Dig.size {l : List Int} {n : Int} (h : Dig l n) (k : Nat) (hk : 1 ≤ k) : l.length ≤ k ↔ n < 10 ^ k := by
  constructor
  · intro hl
    have := h.less
    have hp : (10 : Int) ^ l.length ≤ 10 ^ k := by
      have h2 : 10 ^ l.length ≤ 10 ^ k := Nat.pow_le_pow_right (by omega) hl
      have h3 : ((10 ^ l.length : Nat) : Int) ≤ ((10 ^ k : Nat) : Int) := Int.ofNat_le.mpr h2
      rw [Int.natCast_pow, Int.natCast_pow] at h3
      exact h3
    omega
  · intro hn
    rcases h.least with e | e
    · omega
    · refine Nat.le_of_not_lt fun hl => ?_
      have h2 : 10 ^ k ≤ 10 ^ (l.length - 1) := Nat.pow_le_pow_right (by omega) (by omega)
      have h3 : ((10 ^ k : Nat) : Int) ≤ ((10 ^ (l.length - 1) : Nat) : Int) := Int.ofNat_le.mpr h2
      rw [Int.natCast_pow, Int.natCast_pow] at h3
      have e4 : ((10 : Nat) : Int) = 10 := rfl
      rw [e4] at h3
      omega
theorem decV_some (l : List Int) : ∀ m : Int, (∀ x ∈ l, 48 ≤ x ∧ x ≤ 57) → ∃ v, Hand.decV l m = some v ∧ v < (m + 1) * 10 ^ l.length := by
  induction l with
  | nil => intro m _; exact ⟨m, rfl, by simp; omega⟩
  | cons c l ih =>
    intro m h
    have hc := h c (by simp)
    obtain ⟨v, hv, hl⟩ := ih (10 * m + (c - 48)) (fun x hx => h x (by simp [hx]))
    refine ⟨v, by rw [Hand.decV_digit _ _ _ hc.1 hc.2]; exact hv, ?_⟩
    have hp : (0 : Int) < 10 ^ l.length := Int.pow_pos (by decide)
    have h2 : (10 * m + (c - 48) + 1) * 10 ^ l.length ≤ ((m + 1) * 10) * 10 ^ l.length := Int.mul_le_mul_of_nonneg_right (by omega) (by omega)
    rw [List.length_cons, Int.pow_succ, Int.mul_comm (10 ^ l.length) 10, ← Int.mul_assoc]
    omega
theorem decV_all (l : List Int) : ∀ m v : Int, Hand.decV l m = some v → ∀ x ∈ l, 48 ≤ x ∧ x ≤ 57 := by
  induction l with
  | nil => intro m v _ x hx; simp at hx
  | cons c l ih =>
    intro m v h x hx
    by_cases hc : 48 ≤ c ∧ c ≤ 57
    · rw [Hand.decV_digit _ _ _ hc.1 hc.2] at h
      rcases List.mem_cons.1 hx with rfl | hx
      · exact hc
      · exact ih _ _ h x hx
    · rw [Hand.decV_none _ _ _ hc] at h; cases h
theorem decV_bad (a b : List Int) (c m : Int) (hc : ¬ (48 ≤ c ∧ c ≤ 57)) : Hand.decV (a ++ c :: b) m = none := by
  rw [decV_append]
  cases Hand.decV a m with
  | none => rfl
  | some v => exact Hand.decV_none _ _ _ hc
theorem bytesOf_front (s : ByteArray) (i : Nat) : bytesOf (s.extract 0 i) = (bytesOf s).take i := by
  unfold bytesOf
  rw [ByteArray.data_extract, Array.toList_extract, List.extract, List.map_take]
  simp
theorem bytesOf_back (s : ByteArray) (i : Nat) : bytesOf (s.extract i s.size) = (bytesOf s).drop i := by
  unfold bytesOf
  rw [ByteArray.data_extract, Array.toList_extract, List.extract, List.take_of_length_le (by rw [List.length_drop, data_length]; omega), List.map_drop]

theorem wf_u64a (a : Int) (h : (Lit.int .u64 a).wf = true) : 0 ≤ a ∧ a < 18446744073709551616 := by
  simp [Lit.wf, IntKind.min, IntKind.max, IntKind.bits, IntKind.signed] at h; omega
theorem wf_u32a (a : Int) (h : (Lit.int .u32 a).wf = true) : 0 ≤ a ∧ a < 4294967296 := by
  simp [Lit.wf, IntKind.min, IntKind.max, IntKind.bits, IntKind.signed] at h; omega
theorem wf_i64a (a : Int) (h : (Lit.int .i64 a).wf = true) : -9223372036854775808 ≤ a ∧ a < 9223372036854775808 := by
  simp [Lit.wf, IntKind.min, IntKind.max, IntKind.bits, IntKind.signed] at h; omega
theorem known_one (w : World) : Calls Try.prog 23 #[] w fun e w' => e = .returned (.bool true) ∧ Below w.heap.size w w' :=
  wicketmanlaw01_known.calls true w (by kernel_rfl)
theorem dec_any (s : ByteArray) (m : Int) (w : World) : Calls Try.prog 25 #[.string s, .int .i64 m] w fun e w' => e = .returned (.tuple #[.int .i64 (decR s m).1, .bool (decR s m).2]) ∧ Below w.heap.size w w' :=
  num_Decimal.calls s m _ _ w rfl
theorem digits_any (n : Int) (t : ByteArray) (k : Nat) (h : wicketmanlaw01_digits.f k n = some t) (w : World) : Calls Try.prog 24 #[.int .i64 n] w fun e w' => e = .returned (.string t) ∧ Below w.heap.size w w' :=
  wicketmanlaw01_digits.calls k n t w h
def decE (o : Option Int) (most : Int) : Int × Bool := match o with | none => (0, false) | some v => if v > most then (0, false) else (v, true)
theorem decR_mid (s : ByteArray) (most : Int) (h1 : 1 ≤ s.size) (h9 : s.size ≤ 9) : decR s most = decE (decV (bytesOf s) 0) most := by
  unfold decR
  rw [if_neg (by omega)]
  rfl
theorem rstep (n : Int) (c p : Nat) (hn0 : 0 ≤ n) (hn : n < 100000000) (g0 : ¬ (c : Int) < 48) (g1 : ¬ (c : Int) > 57) (hp : p < 10) : wrap64 (wrap64 (10 * n) + ((c : Int) - 48) % 256) = 10 * n + (c - 48) ∧ wrap64 ((p : Int) + 1) = ((p + 1 : Nat) : Int) := by
  unfold wrap64; omega
/-- the reference's loop -/
theorem rloop (s : ByteArray) (most : Int) (hs : s.size ≤ 9) (d : Nat) : ∀ (k p : Nat) (n : Int), p ≤ s.size → s.size - p = d → d < k → 0 ≤ n → n < 10 ^ p →
    wicketmanref01_Decimal.l0 k s most n p = some (decE (decV ((bytesOf s).drop p) n) most) := by
  induction d with
  | zero =>
    intro k p n hp hd hk h0 h1
    obtain ⟨k, rfl⟩ : ∃ m, k = m + 1 := ⟨k - 1, by omega⟩
    have e : (bytesOf s).drop p = [] := List.drop_eq_nil_of_le (by rw [bytesOf_length]; omega)
    have hp2 : ¬ (p : Int) < (s.size : Int) := by omega
    simp only [wicketmanref01_Decimal.l0]
    rw [if_neg hp2, e]
    show _ = some (if n > most then (0, false) else (n, true))
    split <;> rfl
  | succ d ih =>
    intro k p n hp hd hk h0 h1
    obtain ⟨k, rfl⟩ : ∃ m, k = m + 1 := ⟨k - 1, by omega⟩
    have hlt : p < s.size := by omega
    have hb := bytes_drop s p hlt
    have hbt : bt s (p : Int) = ((s[p]'hlt).toNat : Int) := by rw [← bt_at s p (by simpa using hlt)]; rfl
    obtain ⟨c, hc⟩ : ∃ c : Nat, (s[p]'hlt).toNat = c := ⟨_, rfl⟩
    rw [hc] at hb hbt
    have hn := pow_bd n p (by omega) h1
    have i1 : (p : Int) < (s.size : Int) := by omega
    have i2 : 0 ≤ (p : Int) := by omega
    simp only [wicketmanref01_Decimal.l0]
    rw [if_pos i1, if_pos i2, hbt, hb]
    by_cases g0 : (c : Int) < 48
    · rw [if_pos g0, decV_none _ _ _ (fun h => by omega)]; rfl
    · rw [if_neg g0]
      by_cases g1 : (c : Int) > 57
      · rw [if_pos g1, decV_none _ _ _ (fun h => by omega)]; rfl
      · have hs2 := pow_step n c p h1 (by omega)
        have hp10 : p < 10 := by omega
        have c1 : (48 : Int) ≤ (c : Int) := by omega
        have c2 : (c : Int) ≤ 57 := by omega
        have hd2 : s.size - (p + 1) = d := by omega
        have hk2 : d < k := by omega
        have hn2 : 0 ≤ 10 * n + ((c : Int) - 48) := by omega
        obtain ⟨e2, e3⟩ := rstep n c p h0 hn g0 g1 hp10
        rw [if_neg g1, decV_digit _ _ _ c1 c2, e2, e3]
        exact ih k (p + 1) _ hlt hd2 hk2 hn2 hs2
theorem rdec_eq (s : ByteArray) (most : Int) : wicketmanref01_Decimal.f 20 s most = some (decR s most) := by
  unfold wicketmanref01_Decimal.f
  by_cases h0 : s.size = 0
  · rw [if_pos (by omega)]
    simp only [wicketmanref01_Decimal.j0]
    unfold decR; rw [if_pos (show s.size = 0 ∨ 9 < s.size from .inl h0)]; rfl
  · rw [if_neg (by omega)]
    simp only [wicketmanref01_Decimal.j0]
    by_cases h9 : 9 < s.size
    · rw [if_pos (decide_eq_true (by omega))]
      unfold decR; rw [if_pos (show s.size = 0 ∨ 9 < s.size from .inr h9)]
    · rw [if_neg (by simp; omega), decR_mid s most (by omega) (by omega)]
      have := rloop s most (by omega) s.size 19 0 0 (by omega) (by omega) (by omega) (by omega) (by simp)
      rw [List.drop_zero] at this
      exact this
theorem rdec_any (s : ByteArray) (m : Int) (w : World) : Calls Try.prog 26 #[.string s, .int .i64 m] w fun e w' => e = .returned (.tuple #[.int .i64 (decR s m).1, .bool (decR s m).2]) ∧ ∃ n, w' = w.drewN n :=
  (wicketmanref01_Decimal.calls 20 s m _ _ w (rdec_eq s m)).mono fun e w' h => ⟨h.1, h.2.out⟩
theorem radd_any (a b : Int) (ha : 0 ≤ a ∧ a < 18446744073709551616) (hb : 0 ≤ b ∧ b < 18446744073709551616) (w : World) : Calls Try.prog 27 #[.int .u64 a, .int .u64 b] w fun e w' => e = .returned (.int .u64 (addV a b)) ∧ ∃ n, w' = w.drewN n := by
  refine (wicketmanref01_Add.calls a b (addV a b) w ?_).mono fun e w' h => ⟨h.1, h.2.out⟩
  unfold wicketmanref01_Add.f addV
  rw [IntKind.wrap_u64, IntKind.wrap_u64]
  split <;> split <;> first | rfl | (congr 1; omega) | (exfalso; omega)
theorem rpast_any (a b c : Int) (w : World) : Calls Try.prog 29 #[.int .u64 a, .int .u64 b, .int .u64 c] w fun e w' => e = .returned (.bool (pastB a b c)) ∧ ∃ n, w' = w.drewN n := by
  refine (wicketmanref01_Past.calls a b c (pastB a b c) w ?_).mono fun e w' h => ⟨h.1, h.2.out⟩
  unfold wicketmanref01_Past.f pastB
  split
  · rename_i h; rw [decide_eq_true h, Bool.true_and]
  · rename_i h; rw [decide_eq_false h, Bool.false_and]
theorem decR_some (s : ByteArray) (v most : Int) (h1 : 1 ≤ s.size) (h9 : s.size ≤ 9) (hv : decV (bytesOf s) 0 = some v) : decR s most = if v > most then (0, false) else (v, true) := by
  unfold decR
  rw [if_neg (by omega), hv]
theorem decR_long (s : ByteArray) (most : Int) (h9 : 9 < s.size) : decR s most = (0, false) := by
  unfold decR
  rw [if_pos (by omega)]
theorem tells (n : Int) (h0 : 0 ≤ n) (t : ByteArray) (l : List Int) (hd : Dig l n) (hb : bytesOf t = l) : decR t n = (if n < 1000000000 then n else 0, decide (n < 1000000000)) ∧ decR t (n - 1) = (0, false) := by
  have hs : t.size = l.length := by rw [← bytesOf_length, hb]
  have h9 := hd.size 9 (by omega)
  have hp := hd.pos
  have hv : decV (bytesOf t) 0 = some n := by rw [hb, hd.tells 0]; simp
  have p9 : (10 : Int) ^ 9 = 1000000000 := by rfl
  rw [p9] at h9
  by_cases g : n < 1000000000
  · have h := h9.2 g
    rw [decR_some t n n (by omega) (by omega) hv, decR_some t n (n - 1) (by omega) (by omega) hv, if_neg (show ¬ n > n by omega), if_pos (show n > n - 1 by omega), if_pos g, decide_eq_true g]
    exact ⟨rfl, rfl⟩
  · have h : 9 < t.size := by rw [hs]; exact Nat.lt_of_not_le fun h => g (h9.1 h)
    rw [decR_long t n h, decR_long t (n - 1) h, if_neg g, decide_eq_false g]
    exact ⟨rfl, rfl⟩
set_option maxHeartbeats 4000000 in
set_option maxRecDepth 100000 in
theorem numAdds_walk (a b c : Int) (s : ByteArray) (most n : Int) (w : World) (ha : 0 ≤ a ∧ a < 18446744073709551616) (hb : 0 ≤ b ∧ b < 18446744073709551616) (hc : 0 ≤ c ∧ c < 18446744073709551616) (hn : 0 ≤ n ∧ n < 4294967296) (hm : -9223372036854775808 ≤ most ∧ most < 9223372036854775808) :
    Calls Try.prog 10 #[.int .u64 a, .int .u64 b, .int .u64 c, .string s, .int .i64 most, .int .u32 n] w fun e w' => e = .returned (.bool true) ∧ Below w.heap.size w w' := by
  obtain ⟨n0, n1⟩ := hn
  by_cases h50 : 50 < s.size
  · have d1 : decide (50 < s.size) = true := decide_eq_true h50
    have d2 : decide (50 < (s.size : Int)) = true := decide_eq_true (by omega)
    clear h50
    go_enter Try.func10, Try.ntmps10
    go_wp2_with (first | (go_at_call 23; ((with_reducible refine (known_one _).mono ?_); rintro e w1 ⟨rfl, hb⟩; (first | (have HB := Aside0.mk (below_step HB.out hb); clear hb) | (have HB := Aside0.mk (below_step (pw_below_drewN HB.out _) hb); clear hb) | (have HB : Aside0 (Below w.heap.size w w1) := Aside0.mk hb; clear hb)))))
    go_ret
    exact ⟨rfl, HB.out⟩
  · have d1 : decide (50 < s.size) = false := decide_eq_false h50
    have d2 : decide (50 < (s.size : Int)) = false := decide_eq_false (by omega)
    clear h50
    obtain ⟨t, l, ht, hd, hbt⟩ := digits_eq n n0 n1 20 (by omega)
    obtain ⟨q1, q2⟩ := tells n n0 t l hd hbt
    have cd : ∀ W, Calls Try.prog 24 #[.int .i64 n] W fun e w' => e = .returned (.string t) ∧ Below W.heap.size W w' := digits_any n t 20 ht
    have ca : ∀ W, Calls Try.prog 27 #[.int .u64 a, .int .u64 b] W fun e w' => e = .returned (.int .u64 (addV a b)) ∧ ∃ n, w' = W.drewN n := radd_any a b ha hb
    clear hd hbt ht ha hb hm
    obtain ⟨c0, c1⟩ := hc
    obtain ⟨x, o, q0⟩ : ∃ x o, decR s most = (x, o) := ⟨_, _, rfl⟩
    by_cases g : n < 1000000000
    · rw [if_pos g, decide_eq_true g] at q1
      have d3 : decide (n < 1000000000) = true := decide_eq_true g
      clear g
      go_enter Try.func10, Try.ntmps10
      go_wp2_with (first | (go_at_call 23; ((with_reducible refine (known_one _).mono ?_); rintro e w1 ⟨rfl, hb⟩; (first | (have HB := Aside0.mk (below_step HB.out hb); clear hb) | (have HB := Aside0.mk (below_step (pw_below_drewN HB.out _) hb); clear hb) | (have HB : Aside0 (Below w.heap.size w w1) := Aside0.mk hb; clear hb)))) | (go_at_call 25; ((with_reducible refine (dec_any _ _ _).mono ?_); rintro e w1 ⟨rfl, hb⟩; (first | (have HB := Aside0.mk (below_step HB.out hb); clear hb) | (have HB := Aside0.mk (below_step (pw_below_drewN HB.out _) hb); clear hb) | (have HB : Aside0 (Below w.heap.size w w1) := Aside0.mk hb; clear hb)))) | (go_at_call 24; ((with_reducible refine (cd _).mono ?_); rintro e w1 ⟨rfl, hb⟩; (first | (have HB := Aside0.mk (below_step HB.out hb); clear hb) | (have HB := Aside0.mk (below_step (pw_below_drewN HB.out _) hb); clear hb) | (have HB : Aside0 (Below w.heap.size w w1) := Aside0.mk hb; clear hb)))) | (go_at_call 26; ((with_reducible refine (rdec_any _ _ _).mono ?_); rintro e w1 ⟨rfl, nd, rfl⟩)) | (go_at_call 22; ((with_reducible refine (add_any _ _ _).mono ?_); rintro e w1 ⟨rfl, nd, rfl⟩)) | (go_at_call 27; ((with_reducible refine (ca _).mono ?_); rintro e w1 ⟨rfl, nd, rfl⟩)) | (go_at_call 28; ((with_reducible refine (past_any _ _ _ _).mono ?_); rintro e w1 ⟨rfl, nd, rfl⟩)) | (go_at_call 29; ((with_reducible refine (rpast_any _ _ _ _).mono ?_); rintro e w1 ⟨rfl, nd, rfl⟩)))
      go_ret
      exact ⟨rfl, pw_below_drewN HB.out _⟩
    · rw [if_neg g, decide_eq_false g] at q1
      have d3 : decide (n < 1000000000) = false := decide_eq_false g
      clear g
      go_enter Try.func10, Try.ntmps10
      go_wp2_with (first | (go_at_call 23; ((with_reducible refine (known_one _).mono ?_); rintro e w1 ⟨rfl, hb⟩; (first | (have HB := Aside0.mk (below_step HB.out hb); clear hb) | (have HB := Aside0.mk (below_step (pw_below_drewN HB.out _) hb); clear hb) | (have HB : Aside0 (Below w.heap.size w w1) := Aside0.mk hb; clear hb)))) | (go_at_call 25; ((with_reducible refine (dec_any _ _ _).mono ?_); rintro e w1 ⟨rfl, hb⟩; (first | (have HB := Aside0.mk (below_step HB.out hb); clear hb) | (have HB := Aside0.mk (below_step (pw_below_drewN HB.out _) hb); clear hb) | (have HB : Aside0 (Below w.heap.size w w1) := Aside0.mk hb; clear hb)))) | (go_at_call 24; ((with_reducible refine (cd _).mono ?_); rintro e w1 ⟨rfl, hb⟩; (first | (have HB := Aside0.mk (below_step HB.out hb); clear hb) | (have HB := Aside0.mk (below_step (pw_below_drewN HB.out _) hb); clear hb) | (have HB : Aside0 (Below w.heap.size w w1) := Aside0.mk hb; clear hb)))) | (go_at_call 26; ((with_reducible refine (rdec_any _ _ _).mono ?_); rintro e w1 ⟨rfl, nd, rfl⟩)) | (go_at_call 22; ((with_reducible refine (add_any _ _ _).mono ?_); rintro e w1 ⟨rfl, nd, rfl⟩)) | (go_at_call 27; ((with_reducible refine (ca _).mono ?_); rintro e w1 ⟨rfl, nd, rfl⟩)) | (go_at_call 28; ((with_reducible refine (past_any _ _ _ _).mono ?_); rintro e w1 ⟨rfl, nd, rfl⟩)) | (go_at_call 29; ((with_reducible refine (rpast_any _ _ _ _).mono ?_); rintro e w1 ⟨rfl, nd, rfl⟩)))
      go_ret
      exact ⟨rfl, pw_below_drewN HB.out _⟩
theorem numAdds_row (a0 a1 a2 : Int) (a3 : ByteArray) (a4 a5 : Int) (w : World) (w0 : (Lit.int .u64 a0).wf = true) (w1 : (Lit.int .u64 a1).wf = true) (w2 : (Lit.int .u64 a2).wf = true) (w3 : a3.size ≤ 140737488351232) (w4 : (Lit.int .i64 a4).wf = true) (w5 : (Lit.int .u32 a5).wf = true) :
    Calls Try.prog 10 #[.int .u64 a0, .int .u64 a1, .int .u64 a2, .string a3, .int .i64 a4, .int .u32 a5] w fun e w' => e = .returned (.bool true) ∧ Below w.heap.size w w' :=
  numAdds_walk a0 a1 a2 a3 a4 a5 w (wf_u64a _ w0) (wf_u64a _ w1) (wf_u64a _ w2) (wf_u32a _ w5) (wf_i64a _ w4)

end Go.Proofs.Ytclmjhpbhmbdaaa.Hand
