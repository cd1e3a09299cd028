/- Fuse. -/
import Derived.Below
import Derived.Deep.Draws
import Derived.Deep.AppendLies
import Derived.Maps.AppendAt
import Derived.OwnWalk
import Derived.Laws.BytesArg
import Derived.Laws.MakeOwn
import Derived.Laws.OwnMore
import Derived.Deep.OwnRows
import Derived.Tactics
import Derived.Lib.ConvBytes
import Derived.Laws.Slices
import Derived.WalkKit
import Derived.KernelRfl
import Derived.RowKit3
import Derived.Deep.LoopGhost
import Derived.Deep.QuietTactic
import Derived.BigQuiet
import Derived.WideLaws
import Derived.Deep.DeepCutAuto
import Derived.Deep.CutBlock
import Derived.Deep.RegionHeld3
import Derived.Laws.Rows
import Derived.Lib.AppendStr
import Derived.ArgAppend
import Derived.Laws.IdiomCopy
import Derived.OrdersHeld
import Derived.Laws.BitsLemmas
import Derived.RowKit
import Derived.Outline
import Derived.Maps.Own
import Derived.Maps.OwnOps
import Derived.Maps.OwnSet
import Derived.Maps.Views
import Derived.Maps.RangeWalk
import Derived.Maps.Ext
import Derived.RangeFuncOwn
import Derived.OneCell
import Derived.Deep.DeepMust
import Derived.Lib.Hide
import Derived.Test.YtdabflkejhoghaaHDd
namespace Go.Proofs.Ytdabflkejhoghaa.Hand
open Go Go.RowKit Go.Maps Go.WideMaps
set_option linter.unusedVariables false
set_option maxHeartbeats 800000 in
set_option maxRecDepth 100000 in
theorem dFuse (A : Nat → Prop) (p mb : Nat) (d : Dk) (n : Int) (w : World) (h : IsDisk w A p mb d) (hn : -9223372036854775808 ≤ n ∧ n ≤ 9223372036854775807) :
    Calls Try.prog 26 #[.pointer (some ⟨p, 0, none⟩), .int .i64 n] w fun e w' => e = .returned (.tuple #[]) ∧ IsDisk w' A p mb (d.setFuse n) ∧ Kp [p] w.heap.size w w' := by
  have hok := h.ok.setFuse n
  obtain ⟨left, hp, hl1, hl2, hl3⟩ := h.heap
  have H := Lib.hid h; have HP := Lib.hid hp
  have c4 : w.cell? ⟨p, 4, none⟩ = some (.bool d.dead) := by rw [Lib.cell_of_heap hp]; rfl
  have c2 : w.cell? ⟨p, 2, none⟩ = some (.bool d.fuse.isSome) := by rw [Lib.cell_of_heap hp]; rfl
  have c3 : w.cell? ⟨p, 3, none⟩ = some (.int .i64 left) := by rw [Lib.cell_of_heap hp]; rfl
  have f2 : w.frozen? ⟨p, 2, none⟩ = false := Lib.frozen_of_heap hp 2
  have f3 : w.frozen? ⟨p, 3, none⟩ = false := Lib.frozen_of_heap hp 3
  clear hp h hl3
  cases hd : d.dead with
  | true =>
    rw [hd] at c4
    have e : d.setFuse n = d := by unfold Dk.setFuse; rw [if_pos hd]
    rw [e]
    clear hd e hok
    go_enter Try.func26, Try.ntmps26
    go_wp2
    go_end0
    exact ⟨rfl, H.out, Kp.refl _ _ _⟩
  | false =>
    rw [hd] at c4
    have fin : ∀ w', w' = (w.setCell ⟨p, 2, none⟩ (.bool (decide (0 ≤ n)))).setCell ⟨p, 3, none⟩ (.int .i64 n) → IsDisk w' A p mb (d.setFuse n) ∧ Kp [p] w.heap.size w w' := by
      rintro w' rfl
      have hk : Kp [p] w.heap.size w ((w.setCell ⟨p, 2, none⟩ (.bool (decide (0 ≤ n)))).setCell ⟨p, 3, none⟩ (.int .i64 n)) := ((Kp.refl _ _ _).setCell (.inr (by simp)) _ _ _).setCell (.inr (by simp)) _ _ _
      refine ⟨H.out.block hk (left := n) ?_ ⟨hn.1, hn.2, ?_⟩ ?_ hok, hk⟩
      · simp only [World.setCell, Array.getElem?_modify, HP.out]
        unfold Dk.setFuse
        rw [hd]
        by_cases h0 : 0 ≤ n <;> simp [h0]
      · intro k hk
        unfold Dk.setFuse at hk
        rw [hd] at hk
        by_cases h0 : 0 ≤ n
        · simp [h0] at hk; omega
        · simp [h0] at hk
      · unfold Dk.setFuse; rw [hd]; rfl
    have FIN := Lib.hid fin
    clear hd fin hok
    by_cases h0 : 0 ≤ n
    · have e : decide (0 ≤ n) = true := decide_eq_true h0
      rw [e] at FIN
      clear e
      go_enter Try.func26, Try.ntmps26
      go_wp2
      go_end0
      exact ⟨rfl, FIN.out _ rfl⟩
    · have e : decide (0 ≤ n) = false := decide_eq_false h0
      have h1 : n < 0 := by omega
      rw [e] at FIN
      clear h0
      go_enter Try.func26, Try.ntmps26
      go_wp2
      go_end0
      exact ⟨rfl, FIN.out _ rfl⟩
theorem dFuse_nil (n : Int) (w : World) : Calls Try.prog 26 #[.pointer none, .int .i64 n] w fun e w' => e = .returned (.tuple #[]) ∧ w = w' := by
  go_enter Try.func26, Try.ntmps26
  go_wp2
  go_end0
  exact ⟨rfl, rfl⟩
end Go.Proofs.Ytdabflkejhoghaa.Hand
