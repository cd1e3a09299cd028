/- What the clock functions return, as plain arithmetic; and what the law package's known returns. -/
import Derived.Test.YtclmjhpbhmbdaaaProg
import Derived.Below
import Derived.Deep.Draws
import Derived.Deep.AppendLies
import Derived.Maps.AppendAt
import Derived.OwnWalk
import Derived.Laws.BytesArg
import Derived.Laws.MakeOwn
import Derived.Laws.OwnMore
import Derived.Deep.OwnRows
import Derived.Tactics
import Derived.Lib.ConvBytes
import Derived.Laws.Slices
import Derived.WalkKit
import Derived.KernelRfl
import Derived.RowKit3
import Derived.Deep.LoopGhost
import Derived.Deep.QuietTactic
import Derived.BigQuiet
import Derived.WideLaws
import Derived.Deep.DeepCutAuto
import Derived.Deep.CutBlock
import Derived.Deep.RegionHeld3
import Derived.Laws.Rows
import Derived.Lib.AppendStr
import Derived.ArgAppend
import Derived.Laws.IdiomCopy
import Derived.OrdersHeld
import Derived.Laws.BitsLemmas
import Derived.RowKit
import Derived.Test.YtclmjhpbhmbdaaaWWords
import Derived.Test.YtclmjhpbhmbdaaaWLast
import Derived.Test.YtclmjhpbhmbdaaaWTab
import Derived.Test.YtclmjhpbhmbdaaaWFour
import Derived.Test.YtclmjhpbhmbdaaaWQPut
import Derived.Test.YtclmjhpbhmbdaaaWApart
import Derived.Test.YtclmjhpbhmbdaaaWArr
import Derived.Test.YtclmjhpbhmbdaaaWZeros
import Derived.Test.YtclmjhpbhmbdaaaWFoot
import Derived.Test.YtclmjhpbhmbdaaaWKept
import Derived.Test.YtclmjhpbhmbdaaaWShare
import Derived.Test.YtclmjhpbhmbdaaaWN
import Derived.Test.YtclmjhpbhmbdaaaWFootNe
import Derived.Test.YtclmjhpbhmbdaaaWAt
import Derived.Test.YtclmjhpbhmbdaaaWEqStruct
import Derived.Test.YtclmjhpbhmbdaaaWRepsOne
import Derived.Test.YtclmjhpbhmbdaaaWInv
import Derived.Test.YtclmjhpbhmbdaaaWInvWords
import Derived.Test.YtclmjhpbhmbdaaaWGuard
import Derived.Test.YtclmjhpbhmbdaaaWNEv
import Derived.Test.YtclmjhpbhmbdaaaWMore
import Derived.Outline
import Derived.Test.YtclmjhpbhmbdaaaHClk
import Derived.Test.YtclmjhpbhmbdaaaHGet
namespace Go.Proofs.Ytclmjhpbhmbdaaa.Hand
open Go.RowKit Go.Proofs.YtclmjhpbhmbdaaaW.PrintWords Go.Proofs.YtclmjhpbhmbdaaaW.PrintLast Go.Proofs.YtclmjhpbhmbdaaaW.PrintMore
attribute [local go_sem] max2_int min2_int max_two min_two max_three min_three max_four min_four
set_option linter.unusedVariables false
set_option linter.unusedSimpArgs false


theorem wf_u64 (a : Int) (h : (Lit.int .u64 a).wf = true) : 0 ≤ a ∧ a < 18446744073709551616 := by
  simp [Lit.wf, IntKind.min, IntKind.max, IntKind.bits, IntKind.signed] at h; omega
theorem wf_u32 (a : Int) (h : (Lit.int .u32 a).wf = true) : 0 ≤ a ∧ a < 4294967296 := by
  simp [Lit.wf, IntKind.min, IntKind.max, IntKind.bits, IntKind.signed] at h; omega
theorem wf_u16 (a : Int) (h : (Lit.int .u16 a).wf = true) : 0 ≤ a ∧ a < 65536 := by
  simp [Lit.wf, IntKind.min, IntKind.max, IntKind.bits, IntKind.signed] at h; omega
theorem wf_u8 (a : Int) (h : (Lit.int .u8 a).wf = true) : 0 ≤ a ∧ a < 256 := by
  simp [Lit.wf, IntKind.min, IntKind.max, IntKind.bits, IntKind.signed] at h; omega
theorem wf_i64 (a : Int) (h : (Lit.int .i64 a).wf = true) : -9223372036854775808 ≤ a ∧ a < 9223372036854775808 := by
  simp [Lit.wf, IntKind.min, IntKind.max, IntKind.bits, IntKind.signed] at h; omega

theorem pastB_eq (a b m : Int) (ha : 0 ≤ a ∧ a < 18446744073709551616) (hb : 0 ≤ b ∧ b < 18446744073709551616) (hm : 0 ≤ m) : pastB a b m = decide (a - b > m) := by
  unfold pastB
  rw [IntKind.wrap_u64]
  by_cases h : a > b
  · rw [decide_eq_true h, Bool.true_and, Int.emod_eq_of_lt (by omega) (by omega)]
  · rw [decide_eq_false h, Bool.false_and, decide_eq_false (by omega)]
theorem whyV_zero (p q : Bool) : (whyV false p q == 0) = (!p && !q) := by cases p <;> cases q <;> decide
theorem live_is (idle age t born seen : Int) (ht : 0 ≤ t ∧ t < 18446744073709551616) (hb : 0 ≤ born ∧ born < 18446744073709551616) (hs : 0 ≤ seen ∧ seen < 18446744073709551616) (hi : 0 ≤ idle) (hg : 0 ≤ age) :
    (whyV false (pastB t born age) (pastB t seen idle) == 0) = decide (t - born ≤ age ∧ t - seen ≤ idle) := by
  rw [whyV_zero, pastB_eq t born age ht hb hg, pastB_eq t seen idle ht hs hi]
  by_cases h1 : t - born > age <;> by_cases h2 : t - seen > idle <;> simp [h1, h2] <;> omega
theorem left_is (idle age t born seen : Int) (ht : 0 ≤ t ∧ t < 18446744073709551616) (hb : 0 ≤ born ∧ born < 18446744073709551616) (hs : 0 ≤ seen ∧ seen < 18446744073709551616) (hi : 0 ≤ idle ∧ idle < 18446744073709551616) (hg : 0 ≤ age ∧ age < 18446744073709551616) :
    leftV idle age t born seen false = if t - born ≤ age ∧ t - seen ≤ idle then mn (age - (mx t born - born)) (idle - (mx t seen - seen)) else 0 := by
  unfold leftV
  rw [live_is _ _ _ _ _ ht hb hs hi.1 hg.1]
  by_cases h : t - born ≤ age ∧ t - seen ≤ idle
  · rw [if_pos (decide_eq_true h), if_pos h]
    unfold leftV0
    have e1 : IntKind.u64.wrap (mx t born - born) = mx t born - born := by rw [IntKind.wrap_u64]; apply Int.emod_eq_of_lt <;> (unfold mx; omega)
    have e2 : IntKind.u64.wrap (mx t seen - seen) = mx t seen - seen := by rw [IntKind.wrap_u64]; apply Int.emod_eq_of_lt <;> (unfold mx; omega)
    rw [e1, e2, IntKind.wrap_u64, IntKind.wrap_u64, Int.emod_eq_of_lt (by unfold mx; omega) (by unfold mx; omega), Int.emod_eq_of_lt (by unfold mx; omega) (by unfold mx; omega)]
  · rw [if_neg (by simpa using h), if_neg h]
/-- does it live? -/
def liveZ (dead : Bool) (t born age seen idle : Int) : Bool := whyV dead (pastB t born age) (pastB t seen idle) == 0
theorem liveZ_is (idle age t born seen : Int) (ht : 0 ≤ t ∧ t < 18446744073709551616) (hb : 0 ≤ born ∧ born < 18446744073709551616) (hs : 0 ≤ seen ∧ seen < 18446744073709551616) (hi : 0 ≤ idle) (hg : 0 ≤ age) :
    liveZ false t born age seen idle = decide (t - born ≤ age ∧ t - seen ≤ idle) := live_is idle age t born seen ht hb hs hi hg
theorem liveZ_any (r0 r1 r2 r3 : Int) (A : Option Addr) (n c : Nat) (t : Int) (i u : ByteArray) (born seen : Int) (dead : Bool) (w : World) : Calls Try.prog 16 #[.agg #[.int .u64 r0, .int .u64 r1, .int .u64 r2, .int .i64 r3, .slice A n c], .int .u64 t, .agg #[.string i, .string u, .int .u64 born, .int .u64 seen, .bool dead]] w fun e w' => e = .returned (.bool (liveZ dead t born r1 seen r0)) ∧ Below w.heap.size w w' :=
  live_any r0 r1 r2 r3 A n c t i u born seen dead w
theorem bcell {W w1 : World} (hb : Below W.heap.size W w1) : (∀ b o, b < W.heap.size → w1.cell? ⟨b, o, none⟩ = W.cell? ⟨b, o, none⟩) ∧ (∀ b o, b < W.heap.size → w1.frozen? ⟨b, o, none⟩ = W.frozen? ⟨b, o, none⟩) :=
  ⟨fun b o h => hb.cell (p := ⟨b, o, none⟩) h, fun b o h => hb.frozen (p := ⟨b, o, none⟩) h⟩
theorem known_any (w : World) : Calls Try.prog 18 #[] w fun e w' => e = .returned (.bool true) ∧ Below w.heap.size w w' := by
  have s1 : (whyV false (pastB 10 3 9) (pastB 10 6 5) == 0) = true := by decide
  have s2 : leftV 5 9 10 3 6 false = 1 := by decide
  have s3 : addV 4 1 = 5 := by decide
  have s4 : whyV false (pastB 13 3 9) (pastB 13 6 5) = 2 := by decide
  go_enter Try.func18, Try.ntmps18
  go_wp2_with (first | (go_at_call 16; ((with_reducible refine (live_any _ _ _ _ _ _ _ _ _ _ _ _ _ _).mono ?_); rintro e w1 ⟨rfl, hb⟩; (first | (have kA := Aside0.mk (blk_below kA.out hb); have kB := Aside0.mk (blk_below kB.out hb); have HB := Aside0.mk (below_step HB.out hb); clear hb a0 a1 a2 a3 a4 b0 b1 b2 b3 b4) | (have kA := Aside0.mk (blk_below (blk_alloc (blk_new _ _) _) hb); have kB := Aside0.mk (blk_below (blk_new1 _ _ _) hb); have HB := Aside0.mk (below_step (below_alloc (below_alloc (Below.refl w.heap.size w) _) _) hb); clear hb)); obtain ⟨a0, a1, a2, a3, a4⟩ := cells5 kA.out; obtain ⟨b0, b1, b2, b3, b4⟩ := cells5 kB.out)) | (go_at_call 17; ((with_reducible refine (left_any _ _ _ _ _ _ _ _ _ _ _ _ _ _).mono ?_); rintro e w1 ⟨rfl, hb⟩; (first | (have kA := Aside0.mk (blk_below kA.out hb); have kB := Aside0.mk (blk_below kB.out hb); have HB := Aside0.mk (below_step HB.out hb); clear hb a0 a1 a2 a3 a4 b0 b1 b2 b3 b4) | (have kA := Aside0.mk (blk_below (blk_alloc (blk_new _ _) _) hb); have kB := Aside0.mk (blk_below (blk_new1 _ _ _) hb); have HB := Aside0.mk (below_step (below_alloc (below_alloc (Below.refl w.heap.size w) _) _) hb); clear hb)); obtain ⟨a0, a1, a2, a3, a4⟩ := cells5 kA.out; obtain ⟨b0, b1, b2, b3, b4⟩ := cells5 kB.out)) | (go_at_call 19; ((with_reducible refine (why_any _ _ _ _ _ _ _ _ _ _ _ _ _ _).mono ?_); rintro e w1 ⟨rfl, hb⟩; (first | (have kA := Aside0.mk (blk_below kA.out hb); have kB := Aside0.mk (blk_below kB.out hb); have HB := Aside0.mk (below_step HB.out hb); clear hb a0 a1 a2 a3 a4 b0 b1 b2 b3 b4) | (have kA := Aside0.mk (blk_below (blk_alloc (blk_new _ _) _) hb); have kB := Aside0.mk (blk_below (blk_new1 _ _ _) hb); have HB := Aside0.mk (below_step (below_alloc (below_alloc (Below.refl w.heap.size w) _) _) hb); clear hb)); obtain ⟨a0, a1, a2, a3, a4⟩ := cells5 kA.out; obtain ⟨b0, b1, b2, b3, b4⟩ := cells5 kB.out)) | (go_at_call 20; ((with_reducible refine (tick_any _ _).mono ?_); rintro e w1 ⟨rfl, nd, rfl⟩; have HB := Aside0.mk (pw_below_drewN HB.out nd); have kA := Aside0.mk (blk_drewN kA.out nd); have kB := Aside0.mk (blk_drewN kB.out nd))))
  go_ret
  exact ⟨rfl, HB.out⟩

end Go.Proofs.Ytclmjhpbhmbdaaa.Hand
