/- ClockTicks: for every time and every number of ticks: each tick is one more, never back, and the greatest time stays. No condition. -/
import Derived.Test.YtclmjhpbhmbdaaaPClockTicksx1
namespace Go.Proofs.Ytclmjhpbhmbdaaa.Pure
open Go.RowKit Go.Proofs.Ytclmjhpbhmbdaaa.PClockTicks Go.Proofs.YtclmjhpbhmbdaaaW.PrintWords Go.Proofs.YtclmjhpbhmbdaaaW.PrintLast

theorem w64 (x : Int) : IntKind.u64.wrap x = x % 18446744073709551616 := IntKind.wrap_u64 x
theorem r64 (a : Int) (h : (Lit.int .u64 a).wf = true) : 0 ≤ a ∧ a < 18446744073709551616 := by
  simp [Lit.wf, IntKind.min, IntKind.max, IntKind.bits, IntKind.signed] at h; omega
theorem r32 (a : Int) (h : (Lit.int .u32 a).wf = true) : 0 ≤ a ∧ a < 4294967296 := by
  simp [Lit.wf, IntKind.min, IntKind.max, IntKind.bits, IntKind.signed] at h; omega
theorem r16 (a : Int) (h : (Lit.int .u16 a).wf = true) : 0 ≤ a ∧ a < 65536 := by
  simp [Lit.wf, IntKind.min, IntKind.max, IntKind.bits, IntKind.signed] at h; omega
theorem r8 (a : Int) (h : (Lit.int .u8 a).wf = true) : 0 ≤ a ∧ a < 256 := by
  simp [Lit.wf, IntKind.min, IntKind.max, IntKind.bits, IntKind.signed] at h; omega

theorem add_eq (a b : Int) (ha : 0 ≤ a ∧ a < 18446744073709551616) (hb : 0 ≤ b ∧ b < 18446744073709551616) : num_Add.f a b = some (if a + b < 18446744073709551616 then a + b else 18446744073709551615) := by
  unfold num_Add.f
  rw [w64]
  split <;> split <;> first | rfl | (congr 1; omega) | (exfalso; omega)
theorem known : wicketmanlaw15_known.f = some true := by kernel_rfl

theorem tick_eq (t : Int) (h : 0 ≤ t ∧ t < 18446744073709551616) : clock_Tick.f t = some (if t + 1 < 18446744073709551616 then t + 1 else 18446744073709551615) := by
  unfold clock_Tick.f
  rw [add_eq t 1 h (by omega)]; rfl
theorem ticks (t n : Int) (ht : 0 ≤ t ∧ t < 18446744073709551616) (hn : 0 ≤ n ∧ n < 256) (d : Nat) : ∀ (k : Nat) (x i : Int), 0 ≤ i → i ≤ n → n - i = d → d < k → x = (if t + i < 18446744073709551616 then t + i else 18446744073709551615) → wicketmanlaw15_ClockTicks.l0 k t n x i = some true := by
  have ew : wrap64 n = n := by unfold wrap64; omega
  induction d with
  | zero =>
    intro k x i h0 h1 hd hk hx
    obtain ⟨k, rfl⟩ : ∃ m, k = m + 1 := ⟨k - 1, by omega⟩
    simp only [wicketmanlaw15_ClockTicks.l0]
    rw [ew, if_neg (by omega), known]
    simp only [Option.bind_some, if_true, w64]
    have ei : i = n := by omega
    by_cases h : t + i < 18446744073709551616
    · rw [if_pos h] at hx; rw [if_pos (by omega)]
    · rw [if_neg h] at hx
      by_cases h2 : x = (t + n % 18446744073709551616) % 18446744073709551616
      · rw [if_pos h2]
      · rw [if_neg h2, hx]; rfl
  | succ d ih =>
    intro k x i h0 h1 hd hk hx
    obtain ⟨k, rfl⟩ : ∃ m, k = m + 1 := ⟨k - 1, by omega⟩
    have hxr : 0 ≤ x ∧ x < 18446744073709551616 := by split at hx <;> omega
    have ei : wrap64 (i + 1) = i + 1 := by unfold wrap64; omega
    simp only [wicketmanlaw15_ClockTicks.l0]
    rw [ew, if_pos (by omega), tick_eq x hxr, ei]
    simp only [Option.bind_some, w64]
    have hr := ih k (if x + 1 < 18446744073709551616 then x + 1 else 18446744073709551615) (i + 1) (by omega) (by omega) (by omega) (by omega) (by split at hx <;> split <;> split <;> omega)
    by_cases hx1 : x + 1 < 18446744073709551616
    · simp only [if_pos hx1] at hr ⊢
      rw [if_neg (by omega), if_neg (by omega), if_pos (by omega)]; exact hr
    · simp only [if_neg hx1] at hr ⊢
      rw [if_neg (by omega), if_pos (by omega), if_pos (by omega)]; exact hr
theorem ClockTicks : wicketmanlaw15_ClockTicks.Pure := by
  intro t n ht hn
  replace ht := r64 t ht
  replace hn := r8 n hn
  refine ⟨n.toNat + 1, ?_⟩
  unfold wicketmanlaw15_ClockTicks.f
  exact ticks t n ht hn n.toNat _ _ _ (by omega) (by omega) (by omega) (by omega) (by rw [if_pos (by omega)]; omega)

end Go.Proofs.Ytclmjhpbhmbdaaa.Pure
