/- The walk of ClockEnds: it returns true. -/
import Derived.Test.YtclmjhpbhmbdaaaProg
import Derived.Below
import Derived.Deep.Draws
import Derived.Deep.AppendLies
import Derived.Maps.AppendAt
import Derived.OwnWalk
import Derived.Laws.BytesArg
import Derived.Laws.MakeOwn
import Derived.Laws.OwnMore
import Derived.Deep.OwnRows
import Derived.Tactics
import Derived.Lib.ConvBytes
import Derived.Laws.Slices
import Derived.WalkKit
import Derived.KernelRfl
import Derived.RowKit3
import Derived.Deep.LoopGhost
import Derived.Deep.QuietTactic
import Derived.BigQuiet
import Derived.WideLaws
import Derived.Deep.DeepCutAuto
import Derived.Deep.CutBlock
import Derived.Deep.RegionHeld3
import Derived.Laws.Rows
import Derived.Lib.AppendStr
import Derived.ArgAppend
import Derived.Laws.IdiomCopy
import Derived.OrdersHeld
import Derived.Laws.BitsLemmas
import Derived.RowKit
import Derived.Test.YtclmjhpbhmbdaaaWWords
import Derived.Test.YtclmjhpbhmbdaaaWLast
import Derived.Test.YtclmjhpbhmbdaaaWTab
import Derived.Test.YtclmjhpbhmbdaaaWFour
import Derived.Test.YtclmjhpbhmbdaaaWQPut
import Derived.Test.YtclmjhpbhmbdaaaWApart
import Derived.Test.YtclmjhpbhmbdaaaWArr
import Derived.Test.YtclmjhpbhmbdaaaWZeros
import Derived.Test.YtclmjhpbhmbdaaaWFoot
import Derived.Test.YtclmjhpbhmbdaaaWKept
import Derived.Test.YtclmjhpbhmbdaaaWShare
import Derived.Test.YtclmjhpbhmbdaaaWN
import Derived.Test.YtclmjhpbhmbdaaaWFootNe
import Derived.Test.YtclmjhpbhmbdaaaWAt
import Derived.Test.YtclmjhpbhmbdaaaWEqStruct
import Derived.Test.YtclmjhpbhmbdaaaWRepsOne
import Derived.Test.YtclmjhpbhmbdaaaWInv
import Derived.Test.YtclmjhpbhmbdaaaWInvWords
import Derived.Test.YtclmjhpbhmbdaaaWGuard
import Derived.Test.YtclmjhpbhmbdaaaWNEv
import Derived.Test.YtclmjhpbhmbdaaaWMore
import Derived.Outline
import Derived.Test.YtclmjhpbhmbdaaaHClk
import Derived.Test.YtclmjhpbhmbdaaaHGet
import Derived.Test.YtclmjhpbhmbdaaaHLFact
namespace Go.Proofs.Ytclmjhpbhmbdaaa.Hand
open Go.RowKit Go.Proofs.YtclmjhpbhmbdaaaW.PrintWords Go.Proofs.YtclmjhpbhmbdaaaW.PrintLast Go.Proofs.YtclmjhpbhmbdaaaW.PrintMore
attribute [local go_sem] max2_int min2_int max_two min_two max_three min_three max_four min_four
set_option linter.unusedVariables false
set_option linter.unusedSimpArgs false


theorem ends_facts (I A B S T M : Int) (hI : 0 ≤ I ∧ I < 1000) (hA : 0 ≤ A ∧ A < 1000) (hB : 0 ≤ B ∧ B < 2000) (hS : 0 ≤ S ∧ S < 500) (hT : 0 ≤ T ∧ T < 1500) (hM : 0 ≤ M ∧ M < 4294967296) :
    ∃ b1 L, liveZ false (B + S + T) B (1 + A) (B + S) (1 + I) = b1 ∧ leftV (1 + I) (1 + A) (B + S + T) B (B + S) false = L ∧ 0 ≤ L ∧ L ≤ 1000 ∧
      (b1 = true → liveZ false (B + S + T + M) B (1 + A) (B + S) (1 + I) = decide (M ≤ L) ∧ liveZ false (B + S + T + L) B (1 + A) (B + S) (1 + I) = true ∧ liveZ false (B + S + T + L + 1) B (1 + A) (B + S) (1 + I) = false) ∧
      (b1 = false → L = 0 ∧ liveZ false (B + S + T + M) B (1 + A) (B + S) (1 + I) = false) := by
  refine ⟨_, _, rfl, rfl, ?_⟩
  rw [left_is _ _ _ _ _ (by omega) (by omega) (by omega) (by omega) (by omega)]
  have hb : 0 ≤ (if B + S + T - B ≤ 1 + A ∧ B + S + T - (B + S) ≤ 1 + I then mn (1 + A - (mx (B + S + T) B - B)) (1 + I - (mx (B + S + T) (B + S) - (B + S))) else 0) ∧ (if B + S + T - B ≤ 1 + A ∧ B + S + T - (B + S) ≤ 1 + I then mn (1 + A - (mx (B + S + T) B - B)) (1 + I - (mx (B + S + T) (B + S) - (B + S))) else 0) ≤ 1000 := by
    unfold mn mx; split <;> omega
  refine ⟨hb.1, hb.2, ?_, ?_⟩
  · intro h1
    rw [liveZ_is _ _ _ _ _ (by omega) (by omega) (by omega) (by omega) (by omega), decide_eq_true_eq] at h1
    rw [if_pos h1] at hb ⊢
    rw [liveZ_is _ _ _ _ _ (by omega) (by omega) (by omega) (by omega) (by omega), liveZ_is _ _ _ _ _ (by omega) (by omega) (by omega) (by omega) (by omega), liveZ_is _ _ _ _ _ (by omega) (by omega) (by omega) (by omega) (by omega)]
    refine ⟨?_, decide_eq_true ?_, decide_eq_false ?_⟩
    · congr 1; apply propext; unfold mn mx; constructor <;> intro h <;> (repeat' split) <;> omega
    · unfold mn mx; (repeat' split) <;> omega
    · unfold mn mx; (repeat' split) <;> omega
  · intro h1
    rw [liveZ_is _ _ _ _ _ (by omega) (by omega) (by omega) (by omega) (by omega), decide_eq_false_iff_not] at h1
    rw [if_neg h1, liveZ_is _ _ _ _ _ (by omega) (by omega) (by omega) (by omega) (by omega)]
    exact ⟨rfl, decide_eq_false (by omega)⟩
set_option maxHeartbeats 1600000 in
set_option maxRecDepth 100000 in
theorem clockEnds_walk (idle age born seen t more : Int) (w : World) (h0 : 0 ≤ idle ∧ idle < 4294967296) (h1 : 0 ≤ age ∧ age < 4294967296) (h2 : 0 ≤ born ∧ born < 4294967296) (h3 : 0 ≤ seen ∧ seen < 4294967296) (h4 : 0 ≤ t ∧ t < 4294967296) (h5 : 0 ≤ more ∧ more < 4294967296) :
    Calls Try.prog 3 #[.int .u32 idle, .int .u32 age, .int .u32 born, .int .u32 seen, .int .u32 t, .int .u32 more] w fun e w' => e = .returned (.bool true) ∧ Below w.heap.size w w' := by
  obtain ⟨g0, g0'⟩ := h0; obtain ⟨g1, g1'⟩ := h1; obtain ⟨g2, g2'⟩ := h2; obtain ⟨g3, g3'⟩ := h3; obtain ⟨g4, g4'⟩ := h4; obtain ⟨g5, g5'⟩ := h5
  obtain ⟨I, hI⟩ : ∃ x, idle % 1000 = x := ⟨_, rfl⟩
  obtain ⟨A, hA⟩ : ∃ x, age % 1000 = x := ⟨_, rfl⟩
  obtain ⟨B, hB⟩ : ∃ x, born % 2000 = x := ⟨_, rfl⟩
  obtain ⟨S, hS⟩ : ∃ x, seen % 500 = x := ⟨_, rfl⟩
  obtain ⟨T, hT⟩ : ∃ x, t % 1500 = x := ⟨_, rfl⟩
  have rI0 : 0 ≤ I := by omega
  have rI : I < 1000 := by omega
  have rA0 : 0 ≤ A := by omega
  have rA : A < 1000 := by omega
  have rB0 : 0 ≤ B := by omega
  have rB : B < 2000 := by omega
  have rS0 : 0 ≤ S := by omega
  have rS : S < 500 := by omega
  have rT0 : 0 ≤ T := by omega
  have rT : T < 1500 := by omega
  obtain ⟨b1, L, s1, hL, hL0, hL1, hy, hn⟩ := ends_facts I A B S T more ⟨rI0, rI⟩ ⟨rA0, rA⟩ ⟨rB0, rB⟩ ⟨rS0, rS⟩ ⟨rT0, rT⟩ ⟨g5, g5'⟩
  cases b1 with
  | true =>
    obtain ⟨s2, s3, s4⟩ := hy rfl
    clear hy hn
    go_enter Try.func3, Try.ntmps3
    go_wp2_with (first | (go_at_call 16; ((with_reducible refine (liveZ_any _ _ _ _ _ _ _ _ _ _ _ _ _ _).mono ?_); rintro e w1 ⟨rfl, hb⟩; (first | (have kA := Aside0.mk (blk_below kA.out hb); have kB := Aside0.mk (blk_below kB.out hb); have HB := Aside0.mk (below_step HB.out hb); clear hb a0 a1 a2 a3 a4 b0 b1 b2 b3 b4) | (have kA := Aside0.mk (blk_below (blk_alloc (blk_new _ _) _) hb); have kB := Aside0.mk (blk_below (blk_new1 _ _ _) hb); have HB := Aside0.mk (below_step (below_alloc (below_alloc (Below.refl w.heap.size w) _) _) hb); clear hb)); obtain ⟨a0, a1, a2, a3, a4⟩ := cells5 kA.out; obtain ⟨b0, b1, b2, b3, b4⟩ := cells5 kB.out)) | (go_at_call 17; ((with_reducible refine (left_any _ _ _ _ _ _ _ _ _ _ _ _ _ _).mono ?_); rintro e w1 ⟨rfl, hb⟩; (first | (have kA := Aside0.mk (blk_below kA.out hb); have kB := Aside0.mk (blk_below kB.out hb); have HB := Aside0.mk (below_step HB.out hb); clear hb a0 a1 a2 a3 a4 b0 b1 b2 b3 b4) | (have kA := Aside0.mk (blk_below (blk_alloc (blk_new _ _) _) hb); have kB := Aside0.mk (blk_below (blk_new1 _ _ _) hb); have HB := Aside0.mk (below_step (below_alloc (below_alloc (Below.refl w.heap.size w) _) _) hb); clear hb)); obtain ⟨a0, a1, a2, a3, a4⟩ := cells5 kA.out; obtain ⟨b0, b1, b2, b3, b4⟩ := cells5 kB.out)) | (go_at_call 19; ((with_reducible refine (why_any _ _ _ _ _ _ _ _ _ _ _ _ _ _).mono ?_); rintro e w1 ⟨rfl, hb⟩; (first | (have kA := Aside0.mk (blk_below kA.out hb); have kB := Aside0.mk (blk_below kB.out hb); have HB := Aside0.mk (below_step HB.out hb); clear hb a0 a1 a2 a3 a4 b0 b1 b2 b3 b4) | (have kA := Aside0.mk (blk_below (blk_alloc (blk_new _ _) _) hb); have kB := Aside0.mk (blk_below (blk_new1 _ _ _) hb); have HB := Aside0.mk (below_step (below_alloc (below_alloc (Below.refl w.heap.size w) _) _) hb); clear hb)); obtain ⟨a0, a1, a2, a3, a4⟩ := cells5 kA.out; obtain ⟨b0, b1, b2, b3, b4⟩ := cells5 kB.out)) | (go_at_call 20; ((with_reducible refine (tick_any _ _).mono ?_); rintro e w1 ⟨rfl, nd, rfl⟩; have HB := Aside0.mk (pw_below_drewN HB.out nd); have kA := Aside0.mk (blk_drewN kA.out nd); have kB := Aside0.mk (blk_drewN kB.out nd))) | (go_at_call 18; ((with_reducible refine (known_any _).mono ?_); rintro e w1 ⟨rfl, hb⟩; (first | (have kA := Aside0.mk (blk_below kA.out hb); have kB := Aside0.mk (blk_below kB.out hb); have HB := Aside0.mk (below_step HB.out hb); clear hb a0 a1 a2 a3 a4 b0 b1 b2 b3 b4) | (have kA := Aside0.mk (blk_below (blk_alloc (blk_new _ _) _) hb); have kB := Aside0.mk (blk_below (blk_new1 _ _ _) hb); have HB := Aside0.mk (below_step (below_alloc (below_alloc (Below.refl w.heap.size w) _) _) hb); clear hb)); obtain ⟨a0, a1, a2, a3, a4⟩ := cells5 kA.out; obtain ⟨b0, b1, b2, b3, b4⟩ := cells5 kB.out)))
    go_ret
    exact ⟨rfl, HB.out⟩
  | false =>
    obtain ⟨rfl, s2⟩ := hn rfl
    clear hy hn
    go_enter Try.func3, Try.ntmps3
    go_wp2_with (first | (go_at_call 16; ((with_reducible refine (liveZ_any _ _ _ _ _ _ _ _ _ _ _ _ _ _).mono ?_); rintro e w1 ⟨rfl, hb⟩; (first | (have kA := Aside0.mk (blk_below kA.out hb); have kB := Aside0.mk (blk_below kB.out hb); have HB := Aside0.mk (below_step HB.out hb); clear hb a0 a1 a2 a3 a4 b0 b1 b2 b3 b4) | (have kA := Aside0.mk (blk_below (blk_alloc (blk_new _ _) _) hb); have kB := Aside0.mk (blk_below (blk_new1 _ _ _) hb); have HB := Aside0.mk (below_step (below_alloc (below_alloc (Below.refl w.heap.size w) _) _) hb); clear hb)); obtain ⟨a0, a1, a2, a3, a4⟩ := cells5 kA.out; obtain ⟨b0, b1, b2, b3, b4⟩ := cells5 kB.out)) | (go_at_call 17; ((with_reducible refine (left_any _ _ _ _ _ _ _ _ _ _ _ _ _ _).mono ?_); rintro e w1 ⟨rfl, hb⟩; (first | (have kA := Aside0.mk (blk_below kA.out hb); have kB := Aside0.mk (blk_below kB.out hb); have HB := Aside0.mk (below_step HB.out hb); clear hb a0 a1 a2 a3 a4 b0 b1 b2 b3 b4) | (have kA := Aside0.mk (blk_below (blk_alloc (blk_new _ _) _) hb); have kB := Aside0.mk (blk_below (blk_new1 _ _ _) hb); have HB := Aside0.mk (below_step (below_alloc (below_alloc (Below.refl w.heap.size w) _) _) hb); clear hb)); obtain ⟨a0, a1, a2, a3, a4⟩ := cells5 kA.out; obtain ⟨b0, b1, b2, b3, b4⟩ := cells5 kB.out)) | (go_at_call 19; ((with_reducible refine (why_any _ _ _ _ _ _ _ _ _ _ _ _ _ _).mono ?_); rintro e w1 ⟨rfl, hb⟩; (first | (have kA := Aside0.mk (blk_below kA.out hb); have kB := Aside0.mk (blk_below kB.out hb); have HB := Aside0.mk (below_step HB.out hb); clear hb a0 a1 a2 a3 a4 b0 b1 b2 b3 b4) | (have kA := Aside0.mk (blk_below (blk_alloc (blk_new _ _) _) hb); have kB := Aside0.mk (blk_below (blk_new1 _ _ _) hb); have HB := Aside0.mk (below_step (below_alloc (below_alloc (Below.refl w.heap.size w) _) _) hb); clear hb)); obtain ⟨a0, a1, a2, a3, a4⟩ := cells5 kA.out; obtain ⟨b0, b1, b2, b3, b4⟩ := cells5 kB.out)) | (go_at_call 20; ((with_reducible refine (tick_any _ _).mono ?_); rintro e w1 ⟨rfl, nd, rfl⟩; have HB := Aside0.mk (pw_below_drewN HB.out nd); have kA := Aside0.mk (blk_drewN kA.out nd); have kB := Aside0.mk (blk_drewN kB.out nd))) | (go_at_call 18; ((with_reducible refine (known_any _).mono ?_); rintro e w1 ⟨rfl, hb⟩; (first | (have kA := Aside0.mk (blk_below kA.out hb); have kB := Aside0.mk (blk_below kB.out hb); have HB := Aside0.mk (below_step HB.out hb); clear hb a0 a1 a2 a3 a4 b0 b1 b2 b3 b4) | (have kA := Aside0.mk (blk_below (blk_alloc (blk_new _ _) _) hb); have kB := Aside0.mk (blk_below (blk_new1 _ _ _) hb); have HB := Aside0.mk (below_step (below_alloc (below_alloc (Below.refl w.heap.size w) _) _) hb); clear hb)); obtain ⟨a0, a1, a2, a3, a4⟩ := cells5 kA.out; obtain ⟨b0, b1, b2, b3, b4⟩ := cells5 kB.out)))
    go_ret
    exact ⟨rfl, HB.out⟩
theorem clockEnds_row (a0 a1 a2 a3 a4 a5 : Int) (w : World) (w0 : (Lit.int .u32 a0).wf = true) (w1 : (Lit.int .u32 a1).wf = true) (w2 : (Lit.int .u32 a2).wf = true) (w3 : (Lit.int .u32 a3).wf = true) (w4 : (Lit.int .u32 a4).wf = true) (w5 : (Lit.int .u32 a5).wf = true) :
    Calls Try.prog 3 #[.int .u32 a0, .int .u32 a1, .int .u32 a2, .int .u32 a3, .int .u32 a4, .int .u32 a5] w fun e w' => e = .returned (.bool true) ∧ Below w.heap.size w w' :=
  clockEnds_walk a0 a1 a2 a3 a4 a5 w (wf_u32 _ w0) (wf_u32 _ w1) (wf_u32 _ w2) (wf_u32 _ w3) (wf_u32 _ w4) (wf_u32 _ w5)

end Go.Proofs.Ytclmjhpbhmbdaaa.Hand
