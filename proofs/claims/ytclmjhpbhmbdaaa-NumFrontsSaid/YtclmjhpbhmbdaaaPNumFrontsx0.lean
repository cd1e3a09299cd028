-- Printed by wip/tools/xprint.py, a program of this session (it drives the kit's printer; functions proved by hand are imported).
import Derived.Test.YtclmjhpbhmbdaaaProg
import Derived.Below
import Derived.Deep.Draws
import Derived.Deep.AppendLies
import Derived.Maps.AppendAt
import Derived.OwnWalk
import Derived.Laws.BytesArg
import Derived.Laws.MakeOwn
import Derived.Laws.OwnMore
import Derived.Deep.OwnRows
import Derived.Tactics
import Derived.Lib.ConvBytes
import Derived.Laws.Slices
import Derived.WalkKit
import Derived.KernelRfl
import Derived.RowKit3
import Derived.Deep.LoopGhost
import Derived.Deep.QuietTactic
import Derived.BigQuiet
import Derived.WideLaws
import Derived.Deep.DeepCutAuto
import Derived.Deep.CutBlock
import Derived.Deep.RegionHeld3
import Derived.Laws.Rows
import Derived.Lib.AppendStr
import Derived.ArgAppend
import Derived.Laws.IdiomCopy
import Derived.OrdersHeld
import Derived.Laws.BitsLemmas
import Derived.RowKit
import Derived.Test.YtclmjhpbhmbdaaaHDec
import Derived.Test.YtclmjhpbhmbdaaaHGetQ
import Derived.Test.YtclmjhpbhmbdaaaHPut
import Derived.Test.YtclmjhpbhmbdaaaWWords
import Derived.Test.YtclmjhpbhmbdaaaWLast
import Derived.Test.YtclmjhpbhmbdaaaWTab
import Derived.Test.YtclmjhpbhmbdaaaWFour
import Derived.Test.YtclmjhpbhmbdaaaWQPut
import Derived.Test.YtclmjhpbhmbdaaaWApart
import Derived.Test.YtclmjhpbhmbdaaaWArr
import Derived.Test.YtclmjhpbhmbdaaaWZeros
import Derived.Test.YtclmjhpbhmbdaaaWFoot
import Derived.Test.YtclmjhpbhmbdaaaWKept
import Derived.Test.YtclmjhpbhmbdaaaWShare
import Derived.Test.YtclmjhpbhmbdaaaWN
import Derived.Test.YtclmjhpbhmbdaaaWFootNe
import Derived.Test.YtclmjhpbhmbdaaaWAt
import Derived.Test.YtclmjhpbhmbdaaaWEqStruct
import Derived.Test.YtclmjhpbhmbdaaaWRepsOne
import Derived.Test.YtclmjhpbhmbdaaaWInv
import Derived.Test.YtclmjhpbhmbdaaaWInvWords
import Derived.Test.YtclmjhpbhmbdaaaWGuard
import Derived.Test.YtclmjhpbhmbdaaaWNEv
import Derived.Test.YtclmjhpbhmbdaaaWMore
namespace Go.Proofs.Ytclmjhpbhmbdaaa.PNumFronts
open Go.RowKit Go.Proofs.YtclmjhpbhmbdaaaW.PrintWords Go.Proofs.YtclmjhpbhmbdaaaW.PrintLast Go.Proofs.YtclmjhpbhmbdaaaW.PrintMore
attribute [local go_sem] max2_int min2_int max_two min_two max_three min_three max_four min_four   -- for this text's walks alone
set_option linter.unusedVariables false
set_option linter.unusedSimpArgs false



def errW : Option Int → Value
  | none => .nilIface
  | some c => .iface 0 (.int .i64 c)
theorem errW_none : errW none = .nilIface := rfl
theorem errW_some (c : Int) : errW (some c) = .iface 0 (.int .i64 c) := rfl

theorem info5 : (Try.prog.info? 5).map (fun i => (i.zero, i.size, i.bytes)) = some (some (.int .u8 0), 1, 1) := by kernel_rfl
-- the values' own types

end Go.Proofs.Ytclmjhpbhmbdaaa.PNumFronts
