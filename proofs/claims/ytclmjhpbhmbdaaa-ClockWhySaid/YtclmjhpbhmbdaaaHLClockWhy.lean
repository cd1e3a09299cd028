/- The walk of ClockWhy: it returns true. -/
import Derived.Test.YtclmjhpbhmbdaaaProg
import Derived.Below
import Derived.Deep.Draws
import Derived.Deep.AppendLies
import Derived.Maps.AppendAt
import Derived.OwnWalk
import Derived.Laws.BytesArg
import Derived.Laws.MakeOwn
import Derived.Laws.OwnMore
import Derived.Deep.OwnRows
import Derived.Tactics
import Derived.Lib.ConvBytes
import Derived.Laws.Slices
import Derived.WalkKit
import Derived.KernelRfl
import Derived.RowKit3
import Derived.Deep.LoopGhost
import Derived.Deep.QuietTactic
import Derived.BigQuiet
import Derived.WideLaws
import Derived.Deep.DeepCutAuto
import Derived.Deep.CutBlock
import Derived.Deep.RegionHeld3
import Derived.Laws.Rows
import Derived.Lib.AppendStr
import Derived.ArgAppend
import Derived.Laws.IdiomCopy
import Derived.OrdersHeld
import Derived.Laws.BitsLemmas
import Derived.RowKit
import Derived.Test.YtclmjhpbhmbdaaaWWords
import Derived.Test.YtclmjhpbhmbdaaaWLast
import Derived.Test.YtclmjhpbhmbdaaaWTab
import Derived.Test.YtclmjhpbhmbdaaaWFour
import Derived.Test.YtclmjhpbhmbdaaaWQPut
import Derived.Test.YtclmjhpbhmbdaaaWApart
import Derived.Test.YtclmjhpbhmbdaaaWArr
import Derived.Test.YtclmjhpbhmbdaaaWZeros
import Derived.Test.YtclmjhpbhmbdaaaWFoot
import Derived.Test.YtclmjhpbhmbdaaaWKept
import Derived.Test.YtclmjhpbhmbdaaaWShare
import Derived.Test.YtclmjhpbhmbdaaaWN
import Derived.Test.YtclmjhpbhmbdaaaWFootNe
import Derived.Test.YtclmjhpbhmbdaaaWAt
import Derived.Test.YtclmjhpbhmbdaaaWEqStruct
import Derived.Test.YtclmjhpbhmbdaaaWRepsOne
import Derived.Test.YtclmjhpbhmbdaaaWInv
import Derived.Test.YtclmjhpbhmbdaaaWInvWords
import Derived.Test.YtclmjhpbhmbdaaaWGuard
import Derived.Test.YtclmjhpbhmbdaaaWNEv
import Derived.Test.YtclmjhpbhmbdaaaWMore
import Derived.Outline
import Derived.Test.YtclmjhpbhmbdaaaHClk
import Derived.Test.YtclmjhpbhmbdaaaHGet
import Derived.Test.YtclmjhpbhmbdaaaHLFact
namespace Go.Proofs.Ytclmjhpbhmbdaaa.Hand
open Go.RowKit Go.Proofs.YtclmjhpbhmbdaaaW.PrintWords Go.Proofs.YtclmjhpbhmbdaaaW.PrintLast Go.Proofs.YtclmjhpbhmbdaaaW.PrintMore
attribute [local go_sem] max2_int min2_int max_two min_two max_three min_three max_four min_four
set_option linter.unusedVariables false
set_option linter.unusedSimpArgs false


theorem blk_new2 (w : World) (o o2 o3 : Obj) : (((w.alloc o).alloc o2).alloc o3).heap[w.heap.size + 1 + 1]? = some o3 := by simpa using blk_new ((w.alloc o).alloc o2) o3
theorem blk_new3 (w : World) (o o2 o3 o4 : Obj) : ((((w.alloc o).alloc o2).alloc o3).alloc o4).heap[w.heap.size + 1 + 1 + 1]? = some o4 := by simpa using blk_new (((w.alloc o).alloc o2).alloc o3) o4
theorem pastB_self (t m : Int) : pastB t t m = false := by unfold pastB; rw [decide_eq_false (by omega), Bool.false_and]
theorem liveZ_dead (t born age seen idle : Int) : liveZ true t born age seen idle = false := by
  unfold liveZ whyV; rw [if_pos rfl]; rfl
theorem leftV_dead (idle age t born seen : Int) : leftV idle age t born seen true = 0 := by
  unfold leftV whyV; rw [if_pos rfl]; rfl
theorem whyV_dead (p q : Bool) : whyV true p q = 1 := by unfold whyV; rw [if_pos rfl]
set_option maxHeartbeats 4000000 in
set_option maxRecDepth 100000 in
theorem clockWhy_walk (r0 r1 r2 r3 : Int) (A : Option Addr) (n c : Nat) (t : Int) (i u : ByteArray) (born seen : Int) (dead : Bool) (w : World) :
    Calls Try.prog 4 #[.agg #[.int .u64 r0, .int .u64 r1, .int .u64 r2, .int .i64 r3, .slice A n c], .int .u64 t, .agg #[.string i, .string u, .int .u64 born, .int .u64 seen, .bool dead]] w fun e w' => e = .returned (.bool true) ∧ Below w.heap.size w w' := by
  have f1 := whyV_dead (pastB t born r1) (pastB t seen r0)
  have f2 := liveZ_dead t born r1 seen r0
  have f3 := leftV_dead r0 r1 t born seen
  have f4 := pastB_self t r0
  by_cases h1 : t > born
  · by_cases h2 : IntKind.u64.wrap (t - born) > r1
    · have p1 : pastB t born r1 = true := by unfold pastB; rw [decide_eq_true h1, decide_eq_true h2]; rfl
      have d1 : decide (born < t) = true := decide_eq_true h1
      have d2 : decide (r1 < IntKind.u64.wrap (t - born)) = true := decide_eq_true h2
      have f5 : liveZ false t born r1 t r0 = false := by unfold liveZ; rw [p1, f4]; rfl
      have f6 : whyV false (pastB t born r1) (pastB t t r0) = 2 := by rw [p1, f4]; rfl
      clear h1 h2 p1 f4
      go_enter Try.func4, Try.ntmps4
      go_wp2_with (first | (go_at_call 18; ((with_reducible refine (known_any _).mono ?_); rintro e w1 ⟨rfl, hb⟩; (first | (have kA := Aside0.mk (blk_below kA.out hb); have kB := Aside0.mk (blk_below kB.out hb); have kC := Aside0.mk (blk_below kC.out hb); have kD := Aside0.mk (blk_below kD.out hb); have HB := Aside0.mk (below_step HB.out hb); clear hb a0 a1 a2 a3 a4 b0 b1 b2 b3 b4 c0 c1 c2 c3 c4 d0 d1 d2 d3 d4) | (have kA := Aside0.mk (blk_below (blk_alloc (blk_alloc (blk_alloc (blk_new _ _) _) _) _) hb); have kB := Aside0.mk (blk_below (blk_alloc (blk_alloc (blk_new1 _ _ _) _) _) hb); have kC := Aside0.mk (blk_below (blk_alloc (blk_new2 _ _ _ _) _) hb); have kD := Aside0.mk (blk_below (blk_new3 _ _ _ _ _) hb); have HB := Aside0.mk (below_step (below_alloc (below_alloc (below_alloc (below_alloc (Below.refl w.heap.size w) _) _) _) _) hb); clear hb)); obtain ⟨a0, a1, a2, a3, a4⟩ := cells5 kA.out; obtain ⟨b0, b1, b2, b3, b4⟩ := cells5 kB.out; obtain ⟨c0, c1, c2, c3, c4⟩ := cells5 kC.out; obtain ⟨d0, d1, d2, d3, d4⟩ := cells5 kD.out)) | (go_at_call 16; ((with_reducible refine (liveZ_any _ _ _ _ _ _ _ _ _ _ _ _ _ _).mono ?_); rintro e w1 ⟨rfl, hb⟩; (first | (have kA := Aside0.mk (blk_below kA.out hb); have kB := Aside0.mk (blk_below kB.out hb); have kC := Aside0.mk (blk_below kC.out hb); have kD := Aside0.mk (blk_below kD.out hb); have HB := Aside0.mk (below_step HB.out hb); clear hb a0 a1 a2 a3 a4 b0 b1 b2 b3 b4 c0 c1 c2 c3 c4 d0 d1 d2 d3 d4) | (have kA := Aside0.mk (blk_below (blk_alloc (blk_alloc (blk_alloc (blk_new _ _) _) _) _) hb); have kB := Aside0.mk (blk_below (blk_alloc (blk_alloc (blk_new1 _ _ _) _) _) hb); have kC := Aside0.mk (blk_below (blk_alloc (blk_new2 _ _ _ _) _) hb); have kD := Aside0.mk (blk_below (blk_new3 _ _ _ _ _) hb); have HB := Aside0.mk (below_step (below_alloc (below_alloc (below_alloc (below_alloc (Below.refl w.heap.size w) _) _) _) _) hb); clear hb)); obtain ⟨a0, a1, a2, a3, a4⟩ := cells5 kA.out; obtain ⟨b0, b1, b2, b3, b4⟩ := cells5 kB.out; obtain ⟨c0, c1, c2, c3, c4⟩ := cells5 kC.out; obtain ⟨d0, d1, d2, d3, d4⟩ := cells5 kD.out)) | (go_at_call 17; ((with_reducible refine (left_any _ _ _ _ _ _ _ _ _ _ _ _ _ _).mono ?_); rintro e w1 ⟨rfl, hb⟩; (first | (have kA := Aside0.mk (blk_below kA.out hb); have kB := Aside0.mk (blk_below kB.out hb); have kC := Aside0.mk (blk_below kC.out hb); have kD := Aside0.mk (blk_below kD.out hb); have HB := Aside0.mk (below_step HB.out hb); clear hb a0 a1 a2 a3 a4 b0 b1 b2 b3 b4 c0 c1 c2 c3 c4 d0 d1 d2 d3 d4) | (have kA := Aside0.mk (blk_below (blk_alloc (blk_alloc (blk_alloc (blk_new _ _) _) _) _) hb); have kB := Aside0.mk (blk_below (blk_alloc (blk_alloc (blk_new1 _ _ _) _) _) hb); have kC := Aside0.mk (blk_below (blk_alloc (blk_new2 _ _ _ _) _) hb); have kD := Aside0.mk (blk_below (blk_new3 _ _ _ _ _) hb); have HB := Aside0.mk (below_step (below_alloc (below_alloc (below_alloc (below_alloc (Below.refl w.heap.size w) _) _) _) _) hb); clear hb)); obtain ⟨a0, a1, a2, a3, a4⟩ := cells5 kA.out; obtain ⟨b0, b1, b2, b3, b4⟩ := cells5 kB.out; obtain ⟨c0, c1, c2, c3, c4⟩ := cells5 kC.out; obtain ⟨d0, d1, d2, d3, d4⟩ := cells5 kD.out)) | (go_at_call 19; ((with_reducible refine (why_any _ _ _ _ _ _ _ _ _ _ _ _ _ _).mono ?_); rintro e w1 ⟨rfl, hb⟩; (first | (have kA := Aside0.mk (blk_below kA.out hb); have kB := Aside0.mk (blk_below kB.out hb); have kC := Aside0.mk (blk_below kC.out hb); have kD := Aside0.mk (blk_below kD.out hb); have HB := Aside0.mk (below_step HB.out hb); clear hb a0 a1 a2 a3 a4 b0 b1 b2 b3 b4 c0 c1 c2 c3 c4 d0 d1 d2 d3 d4) | (have kA := Aside0.mk (blk_below (blk_alloc (blk_alloc (blk_alloc (blk_new _ _) _) _) _) hb); have kB := Aside0.mk (blk_below (blk_alloc (blk_alloc (blk_new1 _ _ _) _) _) hb); have kC := Aside0.mk (blk_below (blk_alloc (blk_new2 _ _ _ _) _) hb); have kD := Aside0.mk (blk_below (blk_new3 _ _ _ _ _) hb); have HB := Aside0.mk (below_step (below_alloc (below_alloc (below_alloc (below_alloc (Below.refl w.heap.size w) _) _) _) _) hb); clear hb)); obtain ⟨a0, a1, a2, a3, a4⟩ := cells5 kA.out; obtain ⟨b0, b1, b2, b3, b4⟩ := cells5 kB.out; obtain ⟨c0, c1, c2, c3, c4⟩ := cells5 kC.out; obtain ⟨d0, d1, d2, d3, d4⟩ := cells5 kD.out)))
      go_ret
      exact ⟨rfl, HB.out⟩
    · have p1 : pastB t born r1 = false := by unfold pastB; rw [decide_eq_true h1, decide_eq_false h2]; rfl
      have d1 : decide (born < t) = true := decide_eq_true h1
      have d2 : decide (r1 < IntKind.u64.wrap (t - born)) = false := decide_eq_false h2
      have f5 : liveZ false t born r1 t r0 = true := by unfold liveZ; rw [p1, f4]; rfl
      clear h1 h2 p1 f4
      go_enter Try.func4, Try.ntmps4
      go_wp2_with (first | (go_at_call 18; ((with_reducible refine (known_any _).mono ?_); rintro e w1 ⟨rfl, hb⟩; (first | (have kA := Aside0.mk (blk_below kA.out hb); have kB := Aside0.mk (blk_below kB.out hb); have kC := Aside0.mk (blk_below kC.out hb); have kD := Aside0.mk (blk_below kD.out hb); have HB := Aside0.mk (below_step HB.out hb); clear hb a0 a1 a2 a3 a4 b0 b1 b2 b3 b4 c0 c1 c2 c3 c4 d0 d1 d2 d3 d4) | (have kA := Aside0.mk (blk_below (blk_alloc (blk_alloc (blk_alloc (blk_new _ _) _) _) _) hb); have kB := Aside0.mk (blk_below (blk_alloc (blk_alloc (blk_new1 _ _ _) _) _) hb); have kC := Aside0.mk (blk_below (blk_alloc (blk_new2 _ _ _ _) _) hb); have kD := Aside0.mk (blk_below (blk_new3 _ _ _ _ _) hb); have HB := Aside0.mk (below_step (below_alloc (below_alloc (below_alloc (below_alloc (Below.refl w.heap.size w) _) _) _) _) hb); clear hb)); obtain ⟨a0, a1, a2, a3, a4⟩ := cells5 kA.out; obtain ⟨b0, b1, b2, b3, b4⟩ := cells5 kB.out; obtain ⟨c0, c1, c2, c3, c4⟩ := cells5 kC.out; obtain ⟨d0, d1, d2, d3, d4⟩ := cells5 kD.out)) | (go_at_call 16; ((with_reducible refine (liveZ_any _ _ _ _ _ _ _ _ _ _ _ _ _ _).mono ?_); rintro e w1 ⟨rfl, hb⟩; (first | (have kA := Aside0.mk (blk_below kA.out hb); have kB := Aside0.mk (blk_below kB.out hb); have kC := Aside0.mk (blk_below kC.out hb); have kD := Aside0.mk (blk_below kD.out hb); have HB := Aside0.mk (below_step HB.out hb); clear hb a0 a1 a2 a3 a4 b0 b1 b2 b3 b4 c0 c1 c2 c3 c4 d0 d1 d2 d3 d4) | (have kA := Aside0.mk (blk_below (blk_alloc (blk_alloc (blk_alloc (blk_new _ _) _) _) _) hb); have kB := Aside0.mk (blk_below (blk_alloc (blk_alloc (blk_new1 _ _ _) _) _) hb); have kC := Aside0.mk (blk_below (blk_alloc (blk_new2 _ _ _ _) _) hb); have kD := Aside0.mk (blk_below (blk_new3 _ _ _ _ _) hb); have HB := Aside0.mk (below_step (below_alloc (below_alloc (below_alloc (below_alloc (Below.refl w.heap.size w) _) _) _) _) hb); clear hb)); obtain ⟨a0, a1, a2, a3, a4⟩ := cells5 kA.out; obtain ⟨b0, b1, b2, b3, b4⟩ := cells5 kB.out; obtain ⟨c0, c1, c2, c3, c4⟩ := cells5 kC.out; obtain ⟨d0, d1, d2, d3, d4⟩ := cells5 kD.out)) | (go_at_call 17; ((with_reducible refine (left_any _ _ _ _ _ _ _ _ _ _ _ _ _ _).mono ?_); rintro e w1 ⟨rfl, hb⟩; (first | (have kA := Aside0.mk (blk_below kA.out hb); have kB := Aside0.mk (blk_below kB.out hb); have kC := Aside0.mk (blk_below kC.out hb); have kD := Aside0.mk (blk_below kD.out hb); have HB := Aside0.mk (below_step HB.out hb); clear hb a0 a1 a2 a3 a4 b0 b1 b2 b3 b4 c0 c1 c2 c3 c4 d0 d1 d2 d3 d4) | (have kA := Aside0.mk (blk_below (blk_alloc (blk_alloc (blk_alloc (blk_new _ _) _) _) _) hb); have kB := Aside0.mk (blk_below (blk_alloc (blk_alloc (blk_new1 _ _ _) _) _) hb); have kC := Aside0.mk (blk_below (blk_alloc (blk_new2 _ _ _ _) _) hb); have kD := Aside0.mk (blk_below (blk_new3 _ _ _ _ _) hb); have HB := Aside0.mk (below_step (below_alloc (below_alloc (below_alloc (below_alloc (Below.refl w.heap.size w) _) _) _) _) hb); clear hb)); obtain ⟨a0, a1, a2, a3, a4⟩ := cells5 kA.out; obtain ⟨b0, b1, b2, b3, b4⟩ := cells5 kB.out; obtain ⟨c0, c1, c2, c3, c4⟩ := cells5 kC.out; obtain ⟨d0, d1, d2, d3, d4⟩ := cells5 kD.out)) | (go_at_call 19; ((with_reducible refine (why_any _ _ _ _ _ _ _ _ _ _ _ _ _ _).mono ?_); rintro e w1 ⟨rfl, hb⟩; (first | (have kA := Aside0.mk (blk_below kA.out hb); have kB := Aside0.mk (blk_below kB.out hb); have kC := Aside0.mk (blk_below kC.out hb); have kD := Aside0.mk (blk_below kD.out hb); have HB := Aside0.mk (below_step HB.out hb); clear hb a0 a1 a2 a3 a4 b0 b1 b2 b3 b4 c0 c1 c2 c3 c4 d0 d1 d2 d3 d4) | (have kA := Aside0.mk (blk_below (blk_alloc (blk_alloc (blk_alloc (blk_new _ _) _) _) _) hb); have kB := Aside0.mk (blk_below (blk_alloc (blk_alloc (blk_new1 _ _ _) _) _) hb); have kC := Aside0.mk (blk_below (blk_alloc (blk_new2 _ _ _ _) _) hb); have kD := Aside0.mk (blk_below (blk_new3 _ _ _ _ _) hb); have HB := Aside0.mk (below_step (below_alloc (below_alloc (below_alloc (below_alloc (Below.refl w.heap.size w) _) _) _) _) hb); clear hb)); obtain ⟨a0, a1, a2, a3, a4⟩ := cells5 kA.out; obtain ⟨b0, b1, b2, b3, b4⟩ := cells5 kB.out; obtain ⟨c0, c1, c2, c3, c4⟩ := cells5 kC.out; obtain ⟨d0, d1, d2, d3, d4⟩ := cells5 kD.out)))
      go_ret
      exact ⟨rfl, HB.out⟩
  · have p1 : pastB t born r1 = false := by unfold pastB; rw [decide_eq_false h1]; rfl
    have d1 : decide (born < t) = false := decide_eq_false h1
    have f5 : liveZ false t born r1 t r0 = true := by unfold liveZ; rw [p1, f4]; rfl
    clear h1 p1 f4
    go_enter Try.func4, Try.ntmps4
    go_wp2_with (first | (go_at_call 18; ((with_reducible refine (known_any _).mono ?_); rintro e w1 ⟨rfl, hb⟩; (first | (have kA := Aside0.mk (blk_below kA.out hb); have kB := Aside0.mk (blk_below kB.out hb); have kC := Aside0.mk (blk_below kC.out hb); have kD := Aside0.mk (blk_below kD.out hb); have HB := Aside0.mk (below_step HB.out hb); clear hb a0 a1 a2 a3 a4 b0 b1 b2 b3 b4 c0 c1 c2 c3 c4 d0 d1 d2 d3 d4) | (have kA := Aside0.mk (blk_below (blk_alloc (blk_alloc (blk_alloc (blk_new _ _) _) _) _) hb); have kB := Aside0.mk (blk_below (blk_alloc (blk_alloc (blk_new1 _ _ _) _) _) hb); have kC := Aside0.mk (blk_below (blk_alloc (blk_new2 _ _ _ _) _) hb); have kD := Aside0.mk (blk_below (blk_new3 _ _ _ _ _) hb); have HB := Aside0.mk (below_step (below_alloc (below_alloc (below_alloc (below_alloc (Below.refl w.heap.size w) _) _) _) _) hb); clear hb)); obtain ⟨a0, a1, a2, a3, a4⟩ := cells5 kA.out; obtain ⟨b0, b1, b2, b3, b4⟩ := cells5 kB.out; obtain ⟨c0, c1, c2, c3, c4⟩ := cells5 kC.out; obtain ⟨d0, d1, d2, d3, d4⟩ := cells5 kD.out)) | (go_at_call 16; ((with_reducible refine (liveZ_any _ _ _ _ _ _ _ _ _ _ _ _ _ _).mono ?_); rintro e w1 ⟨rfl, hb⟩; (first | (have kA := Aside0.mk (blk_below kA.out hb); have kB := Aside0.mk (blk_below kB.out hb); have kC := Aside0.mk (blk_below kC.out hb); have kD := Aside0.mk (blk_below kD.out hb); have HB := Aside0.mk (below_step HB.out hb); clear hb a0 a1 a2 a3 a4 b0 b1 b2 b3 b4 c0 c1 c2 c3 c4 d0 d1 d2 d3 d4) | (have kA := Aside0.mk (blk_below (blk_alloc (blk_alloc (blk_alloc (blk_new _ _) _) _) _) hb); have kB := Aside0.mk (blk_below (blk_alloc (blk_alloc (blk_new1 _ _ _) _) _) hb); have kC := Aside0.mk (blk_below (blk_alloc (blk_new2 _ _ _ _) _) hb); have kD := Aside0.mk (blk_below (blk_new3 _ _ _ _ _) hb); have HB := Aside0.mk (below_step (below_alloc (below_alloc (below_alloc (below_alloc (Below.refl w.heap.size w) _) _) _) _) hb); clear hb)); obtain ⟨a0, a1, a2, a3, a4⟩ := cells5 kA.out; obtain ⟨b0, b1, b2, b3, b4⟩ := cells5 kB.out; obtain ⟨c0, c1, c2, c3, c4⟩ := cells5 kC.out; obtain ⟨d0, d1, d2, d3, d4⟩ := cells5 kD.out)) | (go_at_call 17; ((with_reducible refine (left_any _ _ _ _ _ _ _ _ _ _ _ _ _ _).mono ?_); rintro e w1 ⟨rfl, hb⟩; (first | (have kA := Aside0.mk (blk_below kA.out hb); have kB := Aside0.mk (blk_below kB.out hb); have kC := Aside0.mk (blk_below kC.out hb); have kD := Aside0.mk (blk_below kD.out hb); have HB := Aside0.mk (below_step HB.out hb); clear hb a0 a1 a2 a3 a4 b0 b1 b2 b3 b4 c0 c1 c2 c3 c4 d0 d1 d2 d3 d4) | (have kA := Aside0.mk (blk_below (blk_alloc (blk_alloc (blk_alloc (blk_new _ _) _) _) _) hb); have kB := Aside0.mk (blk_below (blk_alloc (blk_alloc (blk_new1 _ _ _) _) _) hb); have kC := Aside0.mk (blk_below (blk_alloc (blk_new2 _ _ _ _) _) hb); have kD := Aside0.mk (blk_below (blk_new3 _ _ _ _ _) hb); have HB := Aside0.mk (below_step (below_alloc (below_alloc (below_alloc (below_alloc (Below.refl w.heap.size w) _) _) _) _) hb); clear hb)); obtain ⟨a0, a1, a2, a3, a4⟩ := cells5 kA.out; obtain ⟨b0, b1, b2, b3, b4⟩ := cells5 kB.out; obtain ⟨c0, c1, c2, c3, c4⟩ := cells5 kC.out; obtain ⟨d0, d1, d2, d3, d4⟩ := cells5 kD.out)) | (go_at_call 19; ((with_reducible refine (why_any _ _ _ _ _ _ _ _ _ _ _ _ _ _).mono ?_); rintro e w1 ⟨rfl, hb⟩; (first | (have kA := Aside0.mk (blk_below kA.out hb); have kB := Aside0.mk (blk_below kB.out hb); have kC := Aside0.mk (blk_below kC.out hb); have kD := Aside0.mk (blk_below kD.out hb); have HB := Aside0.mk (below_step HB.out hb); clear hb a0 a1 a2 a3 a4 b0 b1 b2 b3 b4 c0 c1 c2 c3 c4 d0 d1 d2 d3 d4) | (have kA := Aside0.mk (blk_below (blk_alloc (blk_alloc (blk_alloc (blk_new _ _) _) _) _) hb); have kB := Aside0.mk (blk_below (blk_alloc (blk_alloc (blk_new1 _ _ _) _) _) hb); have kC := Aside0.mk (blk_below (blk_alloc (blk_new2 _ _ _ _) _) hb); have kD := Aside0.mk (blk_below (blk_new3 _ _ _ _ _) hb); have HB := Aside0.mk (below_step (below_alloc (below_alloc (below_alloc (below_alloc (Below.refl w.heap.size w) _) _) _) _) hb); clear hb)); obtain ⟨a0, a1, a2, a3, a4⟩ := cells5 kA.out; obtain ⟨b0, b1, b2, b3, b4⟩ := cells5 kB.out; obtain ⟨c0, c1, c2, c3, c4⟩ := cells5 kC.out; obtain ⟨d0, d1, d2, d3, d4⟩ := cells5 kD.out)))
    go_ret
    exact ⟨rfl, HB.out⟩

end Go.Proofs.Ytclmjhpbhmbdaaa.Hand
