/- NumPast: for every three numbers and every delay: what is past stays past as time goes on, nothing is past at its own time or ahead of it, and past is just: more than so many ticks lie between. No condition. -/
import Derived.Test.YtclmjhpbhmbdaaaPNumPastx1
namespace Go.Proofs.Ytclmjhpbhmbdaaa.Pure
open Go.RowKit Go.Proofs.Ytclmjhpbhmbdaaa.PNumPast Go.Proofs.YtclmjhpbhmbdaaaW.PrintWords Go.Proofs.YtclmjhpbhmbdaaaW.PrintLast

theorem w64 (x : Int) : IntKind.u64.wrap x = x % 18446744073709551616 := IntKind.wrap_u64 x
theorem r64 (a : Int) (h : (Lit.int .u64 a).wf = true) : 0 ≤ a ∧ a < 18446744073709551616 := by
  simp [Lit.wf, IntKind.min, IntKind.max, IntKind.bits, IntKind.signed] at h; omega
theorem r32 (a : Int) (h : (Lit.int .u32 a).wf = true) : 0 ≤ a ∧ a < 4294967296 := by
  simp [Lit.wf, IntKind.min, IntKind.max, IntKind.bits, IntKind.signed] at h; omega
theorem r16 (a : Int) (h : (Lit.int .u16 a).wf = true) : 0 ≤ a ∧ a < 65536 := by
  simp [Lit.wf, IntKind.min, IntKind.max, IntKind.bits, IntKind.signed] at h; omega
theorem r8 (a : Int) (h : (Lit.int .u8 a).wf = true) : 0 ≤ a ∧ a < 256 := by
  simp [Lit.wf, IntKind.min, IntKind.max, IntKind.bits, IntKind.signed] at h; omega

theorem add_eq (a b : Int) (ha : 0 ≤ a ∧ a < 18446744073709551616) (hb : 0 ≤ b ∧ b < 18446744073709551616) : num_Add.f a b = some (if a + b < 18446744073709551616 then a + b else 18446744073709551615) := by
  unfold num_Add.f
  rw [w64]
  split <;> split <;> first | rfl | (congr 1; omega) | (exfalso; omega)

theorem past_eq (a b m : Int) (ha : 0 ≤ a ∧ a < 18446744073709551616) (hb : 0 ≤ b ∧ b < 18446744073709551616) (hm : 0 ≤ m) : num_Past.f a b m = some (decide (a - b > m)) := by
  unfold num_Past.f
  rw [w64]
  split
  · rw [Int.emod_eq_of_lt (by omega) (by omega)]
  · rw [decide_eq_false (by omega)]
theorem known : wicketmanlaw01_known.f = some true := by kernel_rfl

theorem NumPast : wicketmanlaw01_NumPast.Pure := by
  intro now thn most more h0 h1 h2 h3
  replace h0 := r64 now h0
  replace h1 := r64 thn h1
  replace h2 := r64 most h2
  replace h3 := r32 more h3
  unfold wicketmanlaw01_NumPast.f
  have e : IntKind.u64.wrap more = more := by rw [w64]; omega
  rw [e, add_eq now more h0 (by omega), add_eq thn more h1 (by omega), known, past_eq now thn most h0 h1 h2.1, past_eq thn thn most h1 h1 h2.1]
  simp only [Option.bind_some]
  rw [past_eq _ thn most (by split <;> omega) h1 h2.1, past_eq thn _ most h1 (by split <;> omega) h2.1]
  simp only [Option.bind_some, if_true, decide_eq_true_eq, w64]
  have g : ¬ (thn - thn > most) := by omega
  have g2 : ¬ (thn - (if thn + more < 18446744073709551616 then thn + more else 18446744073709551615) > most) := by split <;> omega
  rw [if_neg g, if_neg g2]
  by_cases hp : now - thn > most
  · rw [if_pos hp, if_pos (by split <;> omega)]
    split
    · rfl
    · have e3 : (now - thn) % 18446744073709551616 = now - thn := Int.emod_eq_of_lt (by omega) (by omega)
      simp only [e3]; simp [hp]; try omega
  · rw [if_neg hp]
    split
    · rfl
    · have e3 : (now - thn) % 18446744073709551616 = now - thn := Int.emod_eq_of_lt (by omega) (by omega)
      simp only [e3]; simp [hp]; try omega

end Go.Proofs.Ytclmjhpbhmbdaaa.Pure
