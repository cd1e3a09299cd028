/- fill: Cut at a sign. -/
import Derived.Test.YtjbghpkdehikfaaDoorProg
import Derived.Below
import Derived.Deep.Draws
import Derived.Deep.AppendLies
import Derived.Maps.AppendAt
import Derived.OwnWalk
import Derived.Laws.BytesArg
import Derived.Laws.MakeOwn
import Derived.Laws.OwnMore
import Derived.Deep.OwnRows
import Derived.Tactics
import Derived.Lib.ConvBytes
import Derived.Laws.Slices
import Derived.WalkKit
import Derived.KernelRfl
import Derived.RowKit3
import Derived.Deep.LoopGhost
import Derived.Deep.QuietTactic
import Derived.BigQuiet
import Derived.WideLaws
import Derived.Deep.DeepCutAuto
import Derived.Deep.CutBlock
import Derived.Deep.RegionHeld3
import Derived.Laws.Rows
import Derived.Lib.AppendStr
import Derived.ArgAppend
import Derived.Laws.IdiomCopy
import Derived.OrdersHeld
import Derived.Laws.BitsLemmas
import Derived.RowKit
import Derived.Test.YtjbghpkdehikfaaDoorWWords
import Derived.Test.YtjbghpkdehikfaaDoorWLast
import Derived.Test.YtjbghpkdehikfaaDoorWTab
import Derived.Test.YtjbghpkdehikfaaDoorWFour
import Derived.Test.YtjbghpkdehikfaaDoorWQPut
import Derived.Test.YtjbghpkdehikfaaDoorWApart
import Derived.Test.YtjbghpkdehikfaaDoorWArr
import Derived.Test.YtjbghpkdehikfaaDoorWZeros
import Derived.Test.YtjbghpkdehikfaaDoorWFoot
import Derived.Test.YtjbghpkdehikfaaDoorWKept
import Derived.Test.YtjbghpkdehikfaaDoorWShare
import Derived.Test.YtjbghpkdehikfaaDoorWN
import Derived.Test.YtjbghpkdehikfaaDoorWFootNe
import Derived.Test.YtjbghpkdehikfaaDoorWAt
import Derived.Test.YtjbghpkdehikfaaDoorWEqStruct
import Derived.Test.YtjbghpkdehikfaaDoorWRepsOne
import Derived.Test.YtjbghpkdehikfaaDoorWInv
import Derived.Test.YtjbghpkdehikfaaDoorWInvWords
import Derived.Test.YtjbghpkdehikfaaDoorWGuard
import Derived.Test.YtjbghpkdehikfaaDoorWNEv
import Derived.Test.YtjbghpkdehikfaaDoorWMore
import Derived.Outline
import Derived.Test.YtjbghpkdehikfaaDoorHUn
namespace Go.Proofs.YtjbghpkdehikfaaDoor.Hand
open Go.RowKit Go.Proofs.YtjbghpkdehikfaaDoorW.PrintWords Go.Proofs.YtjbghpkdehikfaaDoorW.PrintLast Go.Proofs.YtjbghpkdehikfaaDoorW.PrintMore
set_option linter.unusedVariables false
/-- a text, parted at its first sign -/
def cutR (c : UInt8) : List UInt8 → List UInt8 × List UInt8 × Bool
  | [] => ([], [], false)
  | x :: l => if x = c then ([], l, true) else ((x :: (cutR c l).1), (cutR c l).2)
theorem cutR_at (c : UInt8) (l : List UInt8) : (Lib.indexByte l c < 0 → cutR c l = (l, [], false)) ∧
    (0 ≤ Lib.indexByte l c → ∃ k : Nat, Lib.indexByte l c = k ∧ k + 1 ≤ l.length ∧ cutR c l = (l.take k, l.drop (k + 1), true)) := by
  induction l with
  | nil => exact ⟨fun _ => rfl, fun h => by simp [Lib.indexByte] at h⟩
  | cons x l ih =>
    unfold Lib.indexByte cutR
    by_cases hx : x = c
    · subst hx
      simp
      exact ⟨0, rfl, by omega, by simp⟩
    · simp only [beq_iff_eq, hx, if_false]
      by_cases h1 : Lib.indexByte l c = -1
      · obtain ⟨i1, _⟩ := ih
        rw [if_pos h1, i1 (by omega)]
        exact ⟨fun _ => rfl, fun h => absurd h (by decide)⟩
      · have hge := Lib.indexByte_ge l c
        obtain ⟨k, hk, hl, he⟩ := ih.2 (by omega)
        rw [if_neg h1, hk, he]
        refine ⟨fun h => by omega, fun _ => ⟨k + 1, by simp, by simp; omega, by simp⟩⟩
theorem ext_take (l : List UInt8) (k : Nat) (h : k ≤ l.length) : (⟨l.toArray⟩ : ByteArray).extract 0 k = ⟨(l.take k).toArray⟩ := by
  apply ByteArray.ext; simp
theorem ext_drop (l : List UInt8) (k : Nat) : (⟨l.toArray⟩ : ByteArray).extract k l.length = ⟨(l.drop k).toArray⟩ := by
  apply ByteArray.ext; simp
  exact List.take_of_length_le (by simp)
set_option maxHeartbeats 1600000 in
set_option maxRecDepth 100000 in
theorem cut45 (c : UInt8) (l : List UInt8) (w : World) (hl : l.length < 4611686018427387904) :
    Calls Tryd.prog 45 #[.string ⟨l.toArray⟩, .string ⟨#[c]⟩] w fun e w' => e = .returned (.tuple #[.string ⟨(cutR c l).1.toArray⟩, .string ⟨(cutR c l).2.1.toArray⟩, .bool (cutR c l).2.2]) ∧ ∃ n, w' = w.drewN n := by
  have hat := cutR_at c l
  obtain ⟨q, hq⟩ : ∃ q, Lib.indexByte l c = q := ⟨_, rfl⟩
  rw [hq] at hat
  have hI : ∀ w, Calls Tryd.prog 51 #[.string ⟨l.toArray⟩, .string ⟨#[c]⟩] w fun e w' => e = .returned (.int .i64 q) ∧ w' = w := fun w => by
    have := Tryd.stringslite_Index_one ⟨l.toArray⟩ c w
    rwa [show (⟨l.toArray⟩ : ByteArray).data.toList = l from rfl, hq] at this
  by_cases h0 : 0 ≤ q
  · obtain ⟨k, rfl, hk, hc⟩ := hat.2 h0
    have d0 : decide ((0 : Int) ≤ (k : Int)) = true := decide_eq_true h0
    rw [hc]
    clear hat hq h0 hc
    go_enter Tryd.func45, Tryd.ntmps45
    go_upto_region 3 with (go_at_call 51; ((with_reducible refine (hI _).mono ?_); rintro e w1 ⟨rfl, rfl⟩))
    have q0 : (k : Int) ≤ (l.length : Int) := by omega
    have q1 : wrap64 ((k : Int) + 1) = (k : Int) + 1 := by unfold wrap64; omega
    have q2 : (k : Int) + 1 ≤ (l.length : Int) := by omega
    have q3 : (0 : Int) ≤ (k : Int) + 1 := by omega
    go_region
    all_goals go_wp2
    all_goals go_ret3
    all_goals exact ⟨by rw [ext_take l k (by omega), ext_drop l (k + 1)] <;> rfl, 1, rfl⟩
  · have d0 : decide ((0 : Int) ≤ q) = false := decide_eq_false h0
    rw [hat.1 (by omega)]
    clear hat hq h0
    go_enter Tryd.func45, Tryd.ntmps45
    go_wp2_with (go_at_call 51; ((with_reducible refine (hI _).mono ?_); rintro e w1 ⟨rfl, rfl⟩))
    go_ret3
    exact ⟨rfl, 0, rfl⟩
set_option maxHeartbeats 1600000 in
set_option maxRecDepth 100000 in
theorem cut (c : UInt8) (l : List UInt8) (w : World) (hl : l.length < 4611686018427387904) :
    Calls Tryd.prog 30 #[.string ⟨l.toArray⟩, .string ⟨#[c]⟩] w fun e w' => e = .returned (.tuple #[.string ⟨(cutR c l).1.toArray⟩, .string ⟨(cutR c l).2.1.toArray⟩, .bool (cutR c l).2.2]) ∧ ∃ n, w' = w.drewN n := by
  go_enter Tryd.func30, Tryd.ntmps30
  go_wp2_with (go_at_call 45; ((with_reducible refine (cut45 c l _ hl).mono ?_); rintro e w1 ⟨rfl, n, rfl⟩))
  go_ret3
  exact ⟨rfl, n, rfl⟩
end Go.Proofs.YtjbghpkdehikfaaDoor.Hand
