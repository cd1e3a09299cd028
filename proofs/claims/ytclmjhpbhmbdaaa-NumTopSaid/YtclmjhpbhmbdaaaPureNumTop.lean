/- NumTop: for every two numbers, what num.Add makes of them is below neither, is the same when they are turned, stays at the greatest number, and is their sum where that is a number. No condition. -/
import Derived.Test.YtclmjhpbhmbdaaaPNumTopx1
namespace Go.Proofs.Ytclmjhpbhmbdaaa.Pure
open Go.RowKit Go.Proofs.Ytclmjhpbhmbdaaa.PNumTop Go.Proofs.YtclmjhpbhmbdaaaW.PrintWords Go.Proofs.YtclmjhpbhmbdaaaW.PrintLast

theorem w64 (x : Int) : IntKind.u64.wrap x = x % 18446744073709551616 := IntKind.wrap_u64 x
theorem r64 (a : Int) (h : (Lit.int .u64 a).wf = true) : 0 ≤ a ∧ a < 18446744073709551616 := by
  simp [Lit.wf, IntKind.min, IntKind.max, IntKind.bits, IntKind.signed] at h; omega
theorem r32 (a : Int) (h : (Lit.int .u32 a).wf = true) : 0 ≤ a ∧ a < 4294967296 := by
  simp [Lit.wf, IntKind.min, IntKind.max, IntKind.bits, IntKind.signed] at h; omega
theorem r16 (a : Int) (h : (Lit.int .u16 a).wf = true) : 0 ≤ a ∧ a < 65536 := by
  simp [Lit.wf, IntKind.min, IntKind.max, IntKind.bits, IntKind.signed] at h; omega
theorem r8 (a : Int) (h : (Lit.int .u8 a).wf = true) : 0 ≤ a ∧ a < 256 := by
  simp [Lit.wf, IntKind.min, IntKind.max, IntKind.bits, IntKind.signed] at h; omega

theorem add_eq (a b : Int) (ha : 0 ≤ a ∧ a < 18446744073709551616) (hb : 0 ≤ b ∧ b < 18446744073709551616) : num_Add.f a b = some (if a + b < 18446744073709551616 then a + b else 18446744073709551615) := by
  unfold num_Add.f
  rw [w64]
  split <;> split <;> first | rfl | (congr 1; omega) | (exfalso; omega)
theorem known : wicketmanlaw01_known.f = some true := by kernel_rfl

theorem NumTop : wicketmanlaw01_NumTop.Pure := by
  intro a b ha hb
  replace ha := r64 a ha
  replace hb := r64 b hb
  unfold wicketmanlaw01_NumTop.f
  rw [add_eq a b ha hb, known, add_eq b a hb ha, add_eq _ a (by omega) ha, add_eq a 0 ha (by omega)]
  simp only [Option.bind_some, if_true, w64]
  by_cases h : a + b < 18446744073709551616
  · simp only [if_pos h, if_pos (show b + a < 18446744073709551616 by omega)]
    rw [if_pos (by omega), if_pos (by omega), if_pos (by omega), if_pos (by split <;> omega), if_pos (by split <;> omega)]
    split
    · rfl
    · rw [show (a + b - a) % 18446744073709551616 = b by omega]; simp
  · simp only [if_neg h, if_neg (show ¬ (b + a < 18446744073709551616) by omega)]
    rw [if_pos (by omega), if_pos (by omega)]
    simp only [if_true]
    rw [if_pos (by split <;> omega), if_pos (by split <;> omega)]

end Go.Proofs.Ytclmjhpbhmbdaaa.Pure
