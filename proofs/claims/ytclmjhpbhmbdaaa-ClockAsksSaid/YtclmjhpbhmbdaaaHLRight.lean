/- clock.Right and the reference's, by hand. -/
import Derived.Test.YtclmjhpbhmbdaaaProg
import Derived.Below
import Derived.Deep.Draws
import Derived.Deep.AppendLies
import Derived.Maps.AppendAt
import Derived.OwnWalk
import Derived.Laws.BytesArg
import Derived.Laws.MakeOwn
import Derived.Laws.OwnMore
import Derived.Deep.OwnRows
import Derived.Tactics
import Derived.Lib.ConvBytes
import Derived.Laws.Slices
import Derived.WalkKit
import Derived.KernelRfl
import Derived.RowKit3
import Derived.Deep.LoopGhost
import Derived.Deep.QuietTactic
import Derived.BigQuiet
import Derived.WideLaws
import Derived.Deep.DeepCutAuto
import Derived.Deep.CutBlock
import Derived.Deep.RegionHeld3
import Derived.Laws.Rows
import Derived.Lib.AppendStr
import Derived.ArgAppend
import Derived.Laws.IdiomCopy
import Derived.OrdersHeld
import Derived.Laws.BitsLemmas
import Derived.RowKit
import Derived.Test.YtclmjhpbhmbdaaaWWords
import Derived.Test.YtclmjhpbhmbdaaaWLast
import Derived.Test.YtclmjhpbhmbdaaaWTab
import Derived.Test.YtclmjhpbhmbdaaaWFour
import Derived.Test.YtclmjhpbhmbdaaaWQPut
import Derived.Test.YtclmjhpbhmbdaaaWApart
import Derived.Test.YtclmjhpbhmbdaaaWArr
import Derived.Test.YtclmjhpbhmbdaaaWZeros
import Derived.Test.YtclmjhpbhmbdaaaWFoot
import Derived.Test.YtclmjhpbhmbdaaaWKept
import Derived.Test.YtclmjhpbhmbdaaaWShare
import Derived.Test.YtclmjhpbhmbdaaaWN
import Derived.Test.YtclmjhpbhmbdaaaWFootNe
import Derived.Test.YtclmjhpbhmbdaaaWAt
import Derived.Test.YtclmjhpbhmbdaaaWEqStruct
import Derived.Test.YtclmjhpbhmbdaaaWRepsOne
import Derived.Test.YtclmjhpbhmbdaaaWInv
import Derived.Test.YtclmjhpbhmbdaaaWInvWords
import Derived.Test.YtclmjhpbhmbdaaaWGuard
import Derived.Test.YtclmjhpbhmbdaaaWNEv
import Derived.Test.YtclmjhpbhmbdaaaWMore
import Derived.Outline
import Derived.Test.YtclmjhpbhmbdaaaHClk
import Derived.Test.YtclmjhpbhmbdaaaHGet
namespace Go.Proofs.Ytclmjhpbhmbdaaa.Hand
open Go.RowKit Go.Proofs.YtclmjhpbhmbdaaaW.PrintWords Go.Proofs.YtclmjhpbhmbdaaaW.PrintLast Go.Proofs.YtclmjhpbhmbdaaaW.PrintMore
attribute [local go_sem] max2_int min2_int max_two min_two max_three min_three max_four min_four
set_option linter.unusedVariables false
set_option linter.unusedSimpArgs false


/-- may the rules be? -/
def rightV (r0 r1 r3 : Int) (n : Nat) : Bool := decide (1 ≤ r0 ∧ 1 ≤ r1 ∧ r0 ≤ 999999999 ∧ r1 ≤ 999999999 ∧ 1 ≤ r3 ∧ r3 ≤ 1000 ∧ 16 ≤ n ∧ n ≤ 64)
theorem right_any (r0 r1 r2 r3 : Int) (A : Option Addr) (n c : Nat) (w : World) : Calls Try.prog 30 #[.agg #[.int .u64 r0, .int .u64 r1, .int .u64 r2, .int .i64 r3, .slice A n c]] w fun e w' => e = .returned (.bool (rightV r0 r1 r3 n)) ∧ Below w.heap.size w w' := by
  obtain ⟨m, hm, hiff⟩ : ∃ m, (if r0 < r1 then r1 else r0) = m ∧ (m ≤ 999999999 ↔ r0 ≤ 999999999 ∧ r1 ≤ 999999999) := ⟨_, rfl, by split <;> omega⟩
  have HI := Aside0.mk hiff
  clear hiff
  go_enter Try.func30, Try.ntmps30
  go_wp2
  all_goals
    have hiff := HI.out
    clear HI hm
    go_ret
    refine ⟨?_, below_alloc (Below.refl _ _) _⟩
    show Ending.returned (.bool _) = Ending.returned (.bool _)
    congr 2
    unfold rightV
    first | (symm; exact decide_eq_true (by omega)) | (symm; exact decide_eq_false (by omega))
/-- the reference's -/
theorem rright_any (r0 r1 r2 r3 : Int) (A : Option Addr) (n c : Nat) (w : World) : Calls Try.prog 34 #[.agg #[.int .u64 r0, .int .u64 r1, .int .u64 r2, .int .i64 r3, .slice A n c]] w fun e w' => e = .returned (.bool (rightV r0 r1 r3 n)) ∧ Below w.heap.size w w' := by
  go_enter Try.func34, Try.ntmps34
  go_wp2
  all_goals
    go_ret
    refine ⟨?_, below_alloc (Below.refl _ _) _⟩
    show Ending.returned (.bool _) = Ending.returned (.bool _)
    congr 2
    unfold rightV
    first | (symm; exact decide_eq_true (by omega)) | (symm; exact decide_eq_false (by omega)) | exact decide_eq_decide.mpr (by omega)

end Go.Proofs.Ytclmjhpbhmbdaaa.Hand
