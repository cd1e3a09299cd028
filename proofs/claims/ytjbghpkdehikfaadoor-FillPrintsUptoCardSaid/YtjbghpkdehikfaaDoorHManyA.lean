/- fill: many pairs, parsed. -/
import Derived.Test.YtjbghpkdehikfaaDoorProg
import Derived.Below
import Derived.Deep.Draws
import Derived.Deep.AppendLies
import Derived.Maps.AppendAt
import Derived.OwnWalk
import Derived.Laws.BytesArg
import Derived.Laws.MakeOwn
import Derived.Laws.OwnMore
import Derived.Deep.OwnRows
import Derived.Tactics
import Derived.Lib.ConvBytes
import Derived.Laws.Slices
import Derived.WalkKit
import Derived.KernelRfl
import Derived.RowKit3
import Derived.Deep.LoopGhost
import Derived.Deep.QuietTactic
import Derived.BigQuiet
import Derived.WideLaws
import Derived.Deep.DeepCutAuto
import Derived.Deep.CutBlock
import Derived.Deep.RegionHeld3
import Derived.Laws.Rows
import Derived.Lib.AppendStr
import Derived.ArgAppend
import Derived.Laws.IdiomCopy
import Derived.OrdersHeld
import Derived.Laws.BitsLemmas
import Derived.RowKit
import Derived.Test.YtjbghpkdehikfaaDoorWWords
import Derived.Test.YtjbghpkdehikfaaDoorWLast
import Derived.Test.YtjbghpkdehikfaaDoorWTab
import Derived.Test.YtjbghpkdehikfaaDoorWFour
import Derived.Test.YtjbghpkdehikfaaDoorWQPut
import Derived.Test.YtjbghpkdehikfaaDoorWApart
import Derived.Test.YtjbghpkdehikfaaDoorWArr
import Derived.Test.YtjbghpkdehikfaaDoorWZeros
import Derived.Test.YtjbghpkdehikfaaDoorWFoot
import Derived.Test.YtjbghpkdehikfaaDoorWKept
import Derived.Test.YtjbghpkdehikfaaDoorWShare
import Derived.Test.YtjbghpkdehikfaaDoorWN
import Derived.Test.YtjbghpkdehikfaaDoorWFootNe
import Derived.Test.YtjbghpkdehikfaaDoorWAt
import Derived.Test.YtjbghpkdehikfaaDoorWEqStruct
import Derived.Test.YtjbghpkdehikfaaDoorWRepsOne
import Derived.Test.YtjbghpkdehikfaaDoorWInv
import Derived.Test.YtjbghpkdehikfaaDoorWInvWords
import Derived.Test.YtjbghpkdehikfaaDoorWGuard
import Derived.Test.YtjbghpkdehikfaaDoorWNEv
import Derived.Test.YtjbghpkdehikfaaDoorWMore
import Derived.Outline
import Derived.Test.YtjbghpkdehikfaaDoorHKnown
namespace Go.Proofs.YtjbghpkdehikfaaDoor.Hand
open Go.RowKit Go.Shelf Go.Proofs.YtjbghpkdehikfaaDoorW.PrintWords Go.Proofs.YtjbghpkdehikfaaDoorW.PrintLast Go.Proofs.YtjbghpkdehikfaaDoorW.PrintMore
set_option linter.unusedVariables false
set_option linter.unusedSimpArgs false
theorem bl_is {s : ByteArray} {l : List UInt8} (h : s.data.toList = l) : s = ⟨l.toArray⟩ := by subst h; cases s; simp
theorem OwnP.sl {B : Nat} {w : World} {v : Value} {ps : List Pr} (h : OwnP B w v ps) : ∃ a c, v = .slice a ps.length c := by
  rcases h.1.2 with ⟨rfl, h0⟩ | ⟨g, cap, cur, rfl, _⟩
  · exact ⟨none, 0, by rw [h0]⟩
  · exact ⟨_, _, rfl⟩
/-- Parse of bytes that a conversion has laid. -/
theorem parse_at (g c : Nat) (l : List UInt8) (W : World) (hg : g < W.heap.size) (hc : ∀ j (hj : j < l.length), W.cell? ⟨g, j, none⟩ = some (.int .u8 ((l[j]'hj).toNat : Int))) (hl : l.length < 140737488355328) :
    Calls Tryd.prog 17 #[.slice (some ⟨g, 0, none⟩) l.length c] W fun e w' => ∃ v, e = .returned (.tuple #[v, .int .u16 (parseR l).2]) ∧ OwnP W.heap.size w' v (parseR l).1 ∧ Below W.heap.size W w' := by
  have hB : Bys W.heap.size W (some ⟨g, 0, none⟩) l := .inr ⟨_, rfl, hg, fun j hj => by
    rw [show (⟨g, 0, none⟩ : Addr).add j = ⟨g, j, none⟩ by unfold Addr.add; split <;> simp_all]
    exact hc j hj⟩
  exact parse (some ⟨g, 0, none⟩) c l W (fun X hX => (hB.below hX).conv c) hl
def aS : Nat → List UInt8
  | 0 => []
  | 1 => [97, 61, 49]
  | k + 2 => aS (k + 1) ++ [38] ++ [97, 61, 49]
set_option maxRecDepth 100000 in
theorem aS_parse : ∀ k : Nat, k < 41 → (aS k).length ≤ 160 ∧ (1 ≤ k → (parseR (aS k)).1.length = (if k ≤ 30 then k else 0) ∧ (parseR (aS k)).2 = (if k ≤ 30 then 0 else 3) ∧ (parseR ([61, 49, 38] ++ aS k)).2 = (if k < 30 then 10 else 3)) := by decide +kernel
end Go.Proofs.YtjbghpkdehikfaaDoor.Hand
