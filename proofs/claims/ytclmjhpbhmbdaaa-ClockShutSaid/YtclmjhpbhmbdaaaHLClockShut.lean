/- ClockShut: for every wait, last time, number of wrong passwords and delay: whoever had five or more has to wait just so many ticks; with fewer there is no wait. -/
import Derived.Test.YtclmjhpbhmbdaaaProg
import Derived.Below
import Derived.Deep.Draws
import Derived.Deep.AppendLies
import Derived.Maps.AppendAt
import Derived.OwnWalk
import Derived.Laws.BytesArg
import Derived.Laws.MakeOwn
import Derived.Laws.OwnMore
import Derived.Deep.OwnRows
import Derived.Tactics
import Derived.Lib.ConvBytes
import Derived.Laws.Slices
import Derived.WalkKit
import Derived.KernelRfl
import Derived.RowKit3
import Derived.Deep.LoopGhost
import Derived.Deep.QuietTactic
import Derived.BigQuiet
import Derived.WideLaws
import Derived.Deep.DeepCutAuto
import Derived.Deep.CutBlock
import Derived.Deep.RegionHeld3
import Derived.Laws.Rows
import Derived.Lib.AppendStr
import Derived.ArgAppend
import Derived.Laws.IdiomCopy
import Derived.OrdersHeld
import Derived.Laws.BitsLemmas
import Derived.RowKit
import Derived.Test.YtclmjhpbhmbdaaaWWords
import Derived.Test.YtclmjhpbhmbdaaaWLast
import Derived.Test.YtclmjhpbhmbdaaaWTab
import Derived.Test.YtclmjhpbhmbdaaaWFour
import Derived.Test.YtclmjhpbhmbdaaaWQPut
import Derived.Test.YtclmjhpbhmbdaaaWApart
import Derived.Test.YtclmjhpbhmbdaaaWArr
import Derived.Test.YtclmjhpbhmbdaaaWZeros
import Derived.Test.YtclmjhpbhmbdaaaWFoot
import Derived.Test.YtclmjhpbhmbdaaaWKept
import Derived.Test.YtclmjhpbhmbdaaaWShare
import Derived.Test.YtclmjhpbhmbdaaaWN
import Derived.Test.YtclmjhpbhmbdaaaWFootNe
import Derived.Test.YtclmjhpbhmbdaaaWAt
import Derived.Test.YtclmjhpbhmbdaaaWEqStruct
import Derived.Test.YtclmjhpbhmbdaaaWRepsOne
import Derived.Test.YtclmjhpbhmbdaaaWInv
import Derived.Test.YtclmjhpbhmbdaaaWInvWords
import Derived.Test.YtclmjhpbhmbdaaaWGuard
import Derived.Test.YtclmjhpbhmbdaaaWNEv
import Derived.Test.YtclmjhpbhmbdaaaWMore
import Derived.Outline
import Derived.Test.YtclmjhpbhmbdaaaHClk
import Derived.Test.YtclmjhpbhmbdaaaHGet
import Derived.Test.YtclmjhpbhmbdaaaHLFact
namespace Go.Proofs.Ytclmjhpbhmbdaaa.Hand
open Go.RowKit Go.Proofs.YtclmjhpbhmbdaaaW.PrintWords Go.Proofs.YtclmjhpbhmbdaaaW.PrintLast Go.Proofs.YtclmjhpbhmbdaaaW.PrintMore
attribute [local go_sem] max2_int min2_int max_two min_two max_three min_three max_four min_four
set_option linter.unusedVariables false
set_option linter.unusedSimpArgs false


theorem shutB_is (wait t fails last : Int) (ht : 0 ≤ t ∧ t < 18446744073709551616) (hl : 0 ≤ last ∧ last < 18446744073709551616) (hw : 0 ≤ wait) : shutB wait t fails last = (decide (5 ≤ fails) && decide (t - last ≤ wait)) := by
  unfold shutB
  rw [pastB_eq t last wait ht hl hw]
  by_cases h : 5 ≤ fails <;> by_cases g : t - last > wait <;> simp [h, g] <;> omega
set_option maxHeartbeats 1600000 in
set_option maxRecDepth 100000 in
theorem clockShut_walk (wait last fails more : Int) (w : World) (h0 : 0 ≤ wait ∧ wait < 4294967296) (h1 : 0 ≤ last ∧ last < 4294967296) (h2 : 0 ≤ fails ∧ fails < 256) (h3 : 0 ≤ more ∧ more < 4294967296) :
    Calls Try.prog 7 #[.int .u32 wait, .int .u32 last, .int .u8 fails, .int .u32 more] w fun e w' => e = .returned (.bool true) ∧ Below w.heap.size w w' := by
  obtain ⟨g0, g0'⟩ := h0; obtain ⟨g1, g1'⟩ := h1; obtain ⟨g2, g2'⟩ := h2; obtain ⟨g3, g3'⟩ := h3
  have s1 : shutB wait (last + more) (fails % 12) last = (decide (5 ≤ fails % 12) && decide (more ≤ wait)) := by
    rw [shutB_is _ _ _ _ (by omega) (by omega) (by omega)]; congr 2; apply propext; omega
  have s2 : shutB wait 0 (fails % 12) last = decide (5 ≤ fails % 12) := by
    rw [shutB_is _ _ _ _ (by omega) (by omega) (by omega), decide_eq_true (show 0 - last ≤ wait by omega), Bool.and_true]
  by_cases hf : 5 ≤ fails % 12
  · have d1 : decide (5 ≤ fails % 12) = true := decide_eq_true hf
    rw [d1] at s1 s2
    rw [Bool.true_and] at s1
    clear hf
    go_enter Try.func7, Try.ntmps7
    go_wp2_with (first | (go_at_call 18; ((with_reducible refine (known_any _).mono ?_); rintro e w1 ⟨rfl, hb⟩; (first | (have kA := Aside0.mk (blk_below kA.out hb); have kB := Aside0.mk (blk_below kB.out hb); have HB := Aside0.mk (below_step HB.out hb); clear hb a0 a1 a2 a3 a4 b0 b1 b2 b3 b4 b5) | (have kA := Aside0.mk (blk_below (blk_alloc (blk_new _ _) _) hb); have kB := Aside0.mk (blk_below (blk_new1 _ _ _) hb); have HB := Aside0.mk (below_step (below_alloc (below_alloc (Below.refl w.heap.size w) _) _) hb); clear hb)); obtain ⟨a0, a1, a2, a3, a4⟩ := cells5 kA.out; obtain ⟨b0, b1, b2, b3, b4, b5⟩ := cells6 kB.out)) | (go_at_call 21; ((with_reducible refine (shut_any _ _ _ _ _ _ _ _ _ _ _ _ _ _ _ _ _ _ _).mono ?_); rintro e w1 ⟨rfl, hb⟩; (first | (have kA := Aside0.mk (blk_below kA.out hb); have kB := Aside0.mk (blk_below kB.out hb); have HB := Aside0.mk (below_step HB.out hb); clear hb a0 a1 a2 a3 a4 b0 b1 b2 b3 b4 b5) | (have kA := Aside0.mk (blk_below (blk_alloc (blk_new _ _) _) hb); have kB := Aside0.mk (blk_below (blk_new1 _ _ _) hb); have HB := Aside0.mk (below_step (below_alloc (below_alloc (Below.refl w.heap.size w) _) _) hb); clear hb)); obtain ⟨a0, a1, a2, a3, a4⟩ := cells5 kA.out; obtain ⟨b0, b1, b2, b3, b4, b5⟩ := cells6 kB.out)))
    go_ret
    exact ⟨rfl, HB.out⟩
  · have d1 : decide (5 ≤ fails % 12) = false := decide_eq_false hf
    rw [d1] at s1 s2
    rw [Bool.false_and] at s1
    clear hf
    go_enter Try.func7, Try.ntmps7
    go_wp2_with (first | (go_at_call 18; ((with_reducible refine (known_any _).mono ?_); rintro e w1 ⟨rfl, hb⟩; (first | (have kA := Aside0.mk (blk_below kA.out hb); have kB := Aside0.mk (blk_below kB.out hb); have HB := Aside0.mk (below_step HB.out hb); clear hb a0 a1 a2 a3 a4 b0 b1 b2 b3 b4 b5) | (have kA := Aside0.mk (blk_below (blk_alloc (blk_new _ _) _) hb); have kB := Aside0.mk (blk_below (blk_new1 _ _ _) hb); have HB := Aside0.mk (below_step (below_alloc (below_alloc (Below.refl w.heap.size w) _) _) hb); clear hb)); obtain ⟨a0, a1, a2, a3, a4⟩ := cells5 kA.out; obtain ⟨b0, b1, b2, b3, b4, b5⟩ := cells6 kB.out)) | (go_at_call 21; ((with_reducible refine (shut_any _ _ _ _ _ _ _ _ _ _ _ _ _ _ _ _ _ _ _).mono ?_); rintro e w1 ⟨rfl, hb⟩; (first | (have kA := Aside0.mk (blk_below kA.out hb); have kB := Aside0.mk (blk_below kB.out hb); have HB := Aside0.mk (below_step HB.out hb); clear hb a0 a1 a2 a3 a4 b0 b1 b2 b3 b4 b5) | (have kA := Aside0.mk (blk_below (blk_alloc (blk_new _ _) _) hb); have kB := Aside0.mk (blk_below (blk_new1 _ _ _) hb); have HB := Aside0.mk (below_step (below_alloc (below_alloc (Below.refl w.heap.size w) _) _) hb); clear hb)); obtain ⟨a0, a1, a2, a3, a4⟩ := cells5 kA.out; obtain ⟨b0, b1, b2, b3, b4, b5⟩ := cells6 kB.out)))
    go_ret
    exact ⟨rfl, HB.out⟩
theorem clockShut_row (a0 a1 a2 a3 : Int) (w : World) (w0 : (Lit.int .u32 a0).wf = true) (w1 : (Lit.int .u32 a1).wf = true) (w2 : (Lit.int .u8 a2).wf = true) (w3 : (Lit.int .u32 a3).wf = true) :
    Calls Try.prog 7 #[.int .u32 a0, .int .u32 a1, .int .u8 a2, .int .u32 a3] w fun e w' => e = .returned (.bool true) ∧ Below w.heap.size w w' :=
  clockShut_walk a0 a1 a2 a3 w (wf_u32 _ w0) (wf_u32 _ w1) (wf_u8 _ w2) (wf_u32 _ w3)

end Go.Proofs.Ytclmjhpbhmbdaaa.Hand
