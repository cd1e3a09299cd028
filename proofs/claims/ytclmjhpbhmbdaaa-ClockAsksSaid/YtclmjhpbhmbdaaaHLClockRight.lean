/- ClockRight: for every number of rounds and length of the key that may be, the rules may be; with any one of seven faults they may not. -/
import Derived.Test.YtclmjhpbhmbdaaaProg
import Derived.Below
import Derived.Deep.Draws
import Derived.Deep.AppendLies
import Derived.Maps.AppendAt
import Derived.OwnWalk
import Derived.Laws.BytesArg
import Derived.Laws.MakeOwn
import Derived.Laws.OwnMore
import Derived.Deep.OwnRows
import Derived.Tactics
import Derived.Lib.ConvBytes
import Derived.Laws.Slices
import Derived.WalkKit
import Derived.KernelRfl
import Derived.RowKit3
import Derived.Deep.LoopGhost
import Derived.Deep.QuietTactic
import Derived.BigQuiet
import Derived.WideLaws
import Derived.Deep.DeepCutAuto
import Derived.Deep.CutBlock
import Derived.Deep.RegionHeld3
import Derived.Laws.Rows
import Derived.Lib.AppendStr
import Derived.ArgAppend
import Derived.Laws.IdiomCopy
import Derived.OrdersHeld
import Derived.Laws.BitsLemmas
import Derived.RowKit
import Derived.Test.YtclmjhpbhmbdaaaWWords
import Derived.Test.YtclmjhpbhmbdaaaWLast
import Derived.Test.YtclmjhpbhmbdaaaWTab
import Derived.Test.YtclmjhpbhmbdaaaWFour
import Derived.Test.YtclmjhpbhmbdaaaWQPut
import Derived.Test.YtclmjhpbhmbdaaaWApart
import Derived.Test.YtclmjhpbhmbdaaaWArr
import Derived.Test.YtclmjhpbhmbdaaaWZeros
import Derived.Test.YtclmjhpbhmbdaaaWFoot
import Derived.Test.YtclmjhpbhmbdaaaWKept
import Derived.Test.YtclmjhpbhmbdaaaWShare
import Derived.Test.YtclmjhpbhmbdaaaWN
import Derived.Test.YtclmjhpbhmbdaaaWFootNe
import Derived.Test.YtclmjhpbhmbdaaaWAt
import Derived.Test.YtclmjhpbhmbdaaaWEqStruct
import Derived.Test.YtclmjhpbhmbdaaaWRepsOne
import Derived.Test.YtclmjhpbhmbdaaaWInv
import Derived.Test.YtclmjhpbhmbdaaaWInvWords
import Derived.Test.YtclmjhpbhmbdaaaWGuard
import Derived.Test.YtclmjhpbhmbdaaaWNEv
import Derived.Test.YtclmjhpbhmbdaaaWMore
import Derived.Outline
import Derived.Test.YtclmjhpbhmbdaaaHClk
import Derived.Test.YtclmjhpbhmbdaaaHGet
import Derived.Test.YtclmjhpbhmbdaaaHLFact
import Derived.Test.YtclmjhpbhmbdaaaHLRight
namespace Go.Proofs.Ytclmjhpbhmbdaaa.Hand
open Go.RowKit Go.Proofs.YtclmjhpbhmbdaaaW.PrintWords Go.Proofs.YtclmjhpbhmbdaaaW.PrintLast Go.Proofs.YtclmjhpbhmbdaaaW.PrintMore
attribute [local go_sem] max2_int min2_int max_two min_two max_three min_three max_four min_four
set_option linter.unusedVariables false
set_option linter.unusedSimpArgs false


set_option maxHeartbeats 1600000 in
set_option maxRecDepth 100000 in
theorem clockRight_walk (k which : Int) (w : World) (h0 : 0 ≤ k ∧ k < 256) (h1 : 0 ≤ which ∧ which < 256) :
    Calls Try.prog 12 #[.int .u8 k, .int .u8 which] w fun e w' => e = .returned (.bool true) ∧ Below w.heap.size w w' := by
  obtain ⟨g0, g0'⟩ := h0; obtain ⟨g1, g1'⟩ := h1
  obtain ⟨x, hx⟩ : ∃ x, which % 7 = x := ⟨_, rfl⟩
  have hx0 : 0 ≤ x := by omega
  have hx7 : x < 7 := by omega
  obtain ⟨m1, hm1⟩ : ∃ l : Nat, 16 + k % 49 = l := ⟨(16 + k % 49).toNat, by omega⟩
  obtain ⟨m2, hm2⟩ : ∃ l : Nat, 65 + k = l := ⟨(65 + k).toNat, by omega⟩
  have hk1 := print_make (P := Try.prog) 24 5 .u8 1 Try.underlying24 info5g (by decide) m1 (by omega)
  have hk2 := print_make (P := Try.prog) 24 5 .u8 1 Try.underlying24 info5g (by decide) m2 (by omega)
  have dm : decide (0 ≤ (m1 : Int)) = true := decide_eq_true (by omega)
  have s1 : rightV 1 1 (1 + k) m1 = true := decide_eq_true (by omega)
  have t0 : rightV 0 1 (1 + k) m1 = false := decide_eq_false (by omega)
  have t1 : rightV 1 0 (1 + k) m1 = false := decide_eq_false (by omega)
  have t2 : rightV 1000000000 1 (1 + k) m1 = false := decide_eq_false (by omega)
  have t3 : rightV 1 1000000000 (1 + k) m1 = false := decide_eq_false (by omega)
  have t4 : rightV 1 1 0 m1 = false := decide_eq_false (by omega)
  have t5 : rightV 1 1 1001 m1 = false := decide_eq_false (by omega)
  have t6 : rightV 1 1 (1 + k) m2 = false := decide_eq_false (by omega)
  have dm2 : decide (0 ≤ (m2 : Int)) = true := decide_eq_true (by omega)
  have hcase : x = 0 ∨ x = 1 ∨ x = 2 ∨ x = 3 ∨ x = 4 ∨ x = 5 ∨ x = 6 := by omega
  rcases hcase with rfl | rfl | rfl | rfl | rfl | rfl | rfl
  all_goals
    clear hx0 hx7
    go_enter Try.func12, Try.ntmps12
    go_wp2_with (first | (go_at_call 18; ((with_reducible refine (known_any _).mono ?_); rintro e w1 ⟨rfl, hb⟩; have HB : Aside0 (Below w.heap.size w w1) := Aside0.mk (below_step (by repeat (first | exact Below.refl _ _ | apply below_alloc)) hb); obtain ⟨hc, hf⟩ := bcell hb; have hz := hb.size; clear hb; simp at hz; have hz1 : w.heap.size + 1 < w1.heap.size := (by omega); have hz2 : w.heap.size + 1 + 1 < w1.heap.size := (by omega); clear hz)) | (go_at_call 30; ((with_reducible refine (right_any _ _ _ _ _ _ _ _).mono ?_); rintro e w2 ⟨rfl, hb⟩; have HB := Aside0.mk (below_step HB.out hb); obtain ⟨hc2, hf2⟩ := bcell hb; clear hb)))
    go_ret
    exact ⟨rfl, HB.out⟩
theorem clockRight_row (a0 a1 : Int) (w : World) (w0 : (Lit.int .u8 a0).wf = true) (w1 : (Lit.int .u8 a1).wf = true) :
    Calls Try.prog 12 #[.int .u8 a0, .int .u8 a1] w fun e w' => e = .returned (.bool true) ∧ Below w.heap.size w w' :=
  clockRight_walk a0 a1 w (wf_u8 _ w0) (wf_u8 _ w1)

end Go.Proofs.Ytclmjhpbhmbdaaa.Hand
