/- ClockLeft: for every limits and times: no more is left than either limit; a tick later there is one less; of a session that is seen there is as much as its age lets it. No condition. -/
import Derived.Test.YtclmjhpbhmbdaaaPClockLeftx2
namespace Go.Proofs.Ytclmjhpbhmbdaaa.Pure
open Go.RowKit Go.Proofs.Ytclmjhpbhmbdaaa.PClockLeft Go.Proofs.YtclmjhpbhmbdaaaW.PrintWords Go.Proofs.YtclmjhpbhmbdaaaW.PrintLast

theorem w64 (x : Int) : IntKind.u64.wrap x = x % 18446744073709551616 := IntKind.wrap_u64 x
theorem r64 (a : Int) (h : (Lit.int .u64 a).wf = true) : 0 ≤ a ∧ a < 18446744073709551616 := by
  simp [Lit.wf, IntKind.min, IntKind.max, IntKind.bits, IntKind.signed] at h; omega
theorem r32 (a : Int) (h : (Lit.int .u32 a).wf = true) : 0 ≤ a ∧ a < 4294967296 := by
  simp [Lit.wf, IntKind.min, IntKind.max, IntKind.bits, IntKind.signed] at h; omega
theorem r16 (a : Int) (h : (Lit.int .u16 a).wf = true) : 0 ≤ a ∧ a < 65536 := by
  simp [Lit.wf, IntKind.min, IntKind.max, IntKind.bits, IntKind.signed] at h; omega
theorem r8 (a : Int) (h : (Lit.int .u8 a).wf = true) : 0 ≤ a ∧ a < 256 := by
  simp [Lit.wf, IntKind.min, IntKind.max, IntKind.bits, IntKind.signed] at h; omega

theorem pastB_eq (a b m : Int) (ha : 0 ≤ a ∧ a < 18446744073709551616) (hb : 0 ≤ b ∧ b < 18446744073709551616) (hm : 0 ≤ m) : Hand.pastB a b m = decide (a - b > m) := by
  unfold Hand.pastB
  rw [w64]
  by_cases h : a > b
  · rw [decide_eq_true h, Bool.true_and, Int.emod_eq_of_lt (by omega) (by omega)]
  · rw [decide_eq_false h, Bool.false_and, decide_eq_false (by omega)]
theorem live_eq (idle age x y : Int) (l : List Int) (t : Int) (i u : ByteArray) (born seen : Int) (dead : Bool) (ht : 0 ≤ t ∧ t < 18446744073709551616) (hb : 0 ≤ born ∧ born < 18446744073709551616) (hs : 0 ≤ seen ∧ seen < 18446744073709551616) (hi : 0 ≤ idle) (hg : 0 ≤ age) :
    clock_Live.f idle age x y l t i u born seen dead = some (!dead && decide (t - born ≤ age) && decide (t - seen ≤ idle)) := by
  unfold clock_Live.f Hand.clock_Why.f Hand.whyV
  rw [pastB_eq t born age ht hb hg, pastB_eq t seen idle ht hs hi, Option.bind_some]
  congr 1
  by_cases h1 : t - born > age <;> by_cases h2 : t - seen > idle <;> cases dead <;> simp [h1, h2, Int.not_le.mpr, Int.not_lt.mp] <;> omega

def leftV (idle age t born seen : Int) : Int := if t - born ≤ age ∧ t - seen ≤ idle then mn (age - (mx t born - born)) (idle - (mx t seen - seen)) else 0
theorem left_eq (idle age x y : Int) (l : List Int) (t : Int) (i u : ByteArray) (born seen : Int) (ht : 0 ≤ t ∧ t < 18446744073709551616) (hb : 0 ≤ born ∧ born < 18446744073709551616) (hs : 0 ≤ seen ∧ seen < 18446744073709551616) (hi : 0 ≤ idle ∧ idle < 18446744073709551616) (hg : 0 ≤ age ∧ age < 18446744073709551616) :
    clock_Left.f idle age x y l t i u born seen false = some (leftV idle age t born seen) := by
  unfold clock_Left.f leftV
  rw [live_eq _ _ _ _ _ _ _ _ _ _ _ ht hb hs hi.1 hg.1, Option.bind_some]
  by_cases h : t - born ≤ age ∧ t - seen ≤ idle
  · rw [if_pos (by simp [h.1, h.2]), if_pos h]
    have e1 : IntKind.u64.wrap (mx t born - born) = mx t born - born := by rw [w64]; apply Int.emod_eq_of_lt <;> (unfold mx; omega)
    have e2 : IntKind.u64.wrap (mx t seen - seen) = mx t seen - seen := by rw [w64]; apply Int.emod_eq_of_lt <;> (unfold mx; omega)
    rw [e1, e2, w64, w64, Int.emod_eq_of_lt (by unfold mx; omega) (by unfold mx; omega), Int.emod_eq_of_lt (by unfold mx; omega) (by unfold mx; omega)]
  · rw [if_neg (by simp; omega), if_neg h]
theorem known : wicketmanlaw15_known.f = some true := by kernel_rfl

theorem ClockLeft : wicketmanlaw15_ClockLeft.Pure := by
  intro I A B T h0 h1 h2 h3
  replace h0 := r16 I h0
  replace h1 := r16 A h1
  replace h2 := r16 B h2
  replace h3 := r16 T h3
  unfold wicketmanlaw15_ClockLeft.f
  have wr : ∀ x : Int, 0 ≤ x → x < 18446744073709551616 → IntKind.u64.wrap x = x := fun x a b => by rw [w64]; exact Int.emod_eq_of_lt a b
  rw [wr I (by omega) (by omega), wr A (by omega) (by omega), wr B (by omega) (by omega), wr T (by omega) (by omega), wr (1 + I) (by omega) (by omega), wr (1 + A) (by omega) (by omega), wr (B + T) (by omega) (by omega), wr (B + T + 1) (by omega) (by omega)]
  rw [left_eq _ _ _ _ _ _ _ _ _ _ (by omega) (by omega) (by omega) (by omega) (by omega), left_eq _ _ _ _ _ _ _ _ _ _ (by omega) (by omega) (by omega) (by omega) (by omega), left_eq _ _ _ _ _ _ _ _ _ _ (by omega) (by omega) (by omega) (by omega) (by omega), known]
  have e1 : leftV (1 + I) (1 + A) (B + T) B B = if T ≤ 1 + A ∧ T ≤ 1 + I then (if I < A then 1 + I - T else 1 + A - T) else 0 := by unfold leftV mn mx; (repeat' split) <;> omega
  have e2 : leftV (1 + I) (1 + A) (B + T + 1) B B = if T + 1 ≤ 1 + A ∧ T + 1 ≤ 1 + I then (if I < A then I - T else A - T) else 0 := by unfold leftV mn mx; (repeat' split) <;> omega
  have e3 : leftV (1 + I) (1 + A) (B + T) B (B + T) = if T ≤ 1 + A then (if 1 + I < 1 + A - T then 1 + I else 1 + A - T) else 0 := by unfold leftV mn mx; (repeat' split) <;> omega
  obtain ⟨a, ha⟩ : ∃ x, leftV (1 + I) (1 + A) (B + T) B B = x := ⟨_, rfl⟩
  obtain ⟨b, hb⟩ : ∃ x, leftV (1 + I) (1 + A) (B + T + 1) B B = x := ⟨_, rfl⟩
  obtain ⟨c, hc⟩ : ∃ x, leftV (1 + I) (1 + A) (B + T) B (B + T) = x := ⟨_, rfl⟩
  rw [ha] at e1
  rw [hb] at e2
  rw [hc] at e3
  simp only [ha, hb, hc, Option.bind_some, if_true]
  clear ha hb hc
  have a1 : a ≤ 1 + I := by (repeat' split at e1) <;> omega
  have a2 : a ≤ 1 + A := by (repeat' split at e1) <;> omega
  have a0 : 0 ≤ a := by (repeat' split at e1) <;> omega
  have c1 : c ≥ a := by split at e1 <;> split at e3 <;> (repeat' split at e1) <;> (repeat' split at e3) <;> omega
  have c2 : c ≤ 1 + I := by (repeat' split at e3) <;> omega
  rw [if_pos a1, if_pos a2]
  by_cases z : a = 0
  · have b0 : b = 0 := by subst z; split at e1 <;> split at e2 <;> (repeat' split at e1) <;> (repeat' split at e2) <;> omega
    rw [if_pos z, if_pos b0, if_pos c1, decide_eq_true c2]
  · have b1 : b = a - 1 := by split at e1 <;> split at e2 <;> (repeat' split at e1) <;> (repeat' split at e2) <;> omega
    rw [if_neg z, wr (a - 1) (by omega) (by omega), if_pos b1, if_pos c1, decide_eq_true c2]

end Go.Proofs.Ytclmjhpbhmbdaaa.Pure
