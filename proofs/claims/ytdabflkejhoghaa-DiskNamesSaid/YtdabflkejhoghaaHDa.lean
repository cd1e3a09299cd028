/- The small methods of a disk. -/
import Derived.Below
import Derived.Deep.Draws
import Derived.Deep.AppendLies
import Derived.Maps.AppendAt
import Derived.OwnWalk
import Derived.Laws.BytesArg
import Derived.Laws.MakeOwn
import Derived.Laws.OwnMore
import Derived.Deep.OwnRows
import Derived.Tactics
import Derived.Lib.ConvBytes
import Derived.Laws.Slices
import Derived.WalkKit
import Derived.KernelRfl
import Derived.RowKit3
import Derived.Deep.LoopGhost
import Derived.Deep.QuietTactic
import Derived.BigQuiet
import Derived.WideLaws
import Derived.Deep.DeepCutAuto
import Derived.Deep.CutBlock
import Derived.Deep.RegionHeld3
import Derived.Laws.Rows
import Derived.Lib.AppendStr
import Derived.ArgAppend
import Derived.Laws.IdiomCopy
import Derived.OrdersHeld
import Derived.Laws.BitsLemmas
import Derived.RowKit
import Derived.Outline
import Derived.Maps.Own
import Derived.Maps.OwnOps
import Derived.Maps.OwnSet
import Derived.Maps.Views
import Derived.Maps.RangeWalk
import Derived.Maps.Ext
import Derived.RangeFuncOwn
import Derived.OneCell
import Derived.Test.YtdabflkejhoghaaHDw
namespace Go.Proofs.Ytdabflkejhoghaa.Hand
open Go Go.RowKit Go.Maps Go.WideMaps
set_option linter.unusedVariables false
theorem law : Keyed Try.prog 9 := string_keyed Try.underlying9
theorem hkey {nm : List UInt8} (h : nm.length ≤ maxLen) : keyOf Try.prog 9 (.string ⟨nm.toArray⟩) = some (.string nm) := keyOf_string_mk Try.underlying9 h
theorem new_is (A : Nat → Prop) (room r : Int) (w : World) (hr : r = max 0 (min room 1048576)) (hA : ¬ A w.heap.size ∧ ¬ A (w.heap.size + 1)) :
    IsDisk ((w.alloc (.map #[] 0)).alloc (.cells #[.map (some w.heap.size), .int .i64 r, .bool false, .int .i64 0, .bool false] 90)) A (w.heap.size + 1) w.heap.size (Dk.new room) := by
  have e : ((Dk.new room).room : Int) = r := by show (((max 0 (min room 1048576)).toNat : Nat) : Int) = r; omega
  have hm := World.ownsMap_made w Try.prog 9 heldR
  refine ⟨0, [], ?_, ⟨by omega, by omega, fun k hk => by cases hk⟩, rfl, ?_, by simp, ⟨by omega, hA.2, hA.1⟩, Dk.Ok.new room⟩
  · rw [e]
    have := World.alloc_heap_new (w.alloc (.map #[] 0)) (.cells #[.map (some w.heap.size), .int .i64 r, .bool false, .int .i64 0, .bool false] 90)
    rwa [World.size_alloc] at this
  · exact hm.alloc _
set_option maxHeartbeats 800000 in
theorem dNew (A : Nat → Prop) (room : Int) (w : World) (hr : -9223372036854775808 ≤ room ∧ room ≤ 9223372036854775807) (hA : ¬ A w.heap.size ∧ ¬ A (w.heap.size + 1)) :
    Calls Try.prog 16 #[.int .i64 room] w fun e w' => e = .returned (.pointer (some ⟨w.heap.size + 1, 0, none⟩)) ∧ IsDisk w' A (w.heap.size + 1) w.heap.size (Dk.new room) ∧ Kp [] w.heap.size w w' := by
  have hmm := @run_makeMap Try.prog
  go_enter Try.func16, Try.ntmps16
  go_wp2
  all_goals
    go_ret
    refine ⟨rfl, new_is A room _ w (by omega) hA, (Kp.refl _ _ _).alloc (Nat.le_refl _) _ |>.alloc (by simp) _⟩
theorem dDead (A : Nat → Prop) (p mb : Nat) (d : Dk) (w : World) (h : IsDisk w A p mb d) :
    Calls Try.prog 21 #[.pointer (some ⟨p, 0, none⟩)] w fun e w' => e = .returned (.bool d.dead) ∧ w = w' := by
  obtain ⟨left, gs, hp, _⟩ := h
  have c4 : w.cell? ⟨p, 4, none⟩ = some (.bool d.dead) := by rw [Lib.cell_of_heap hp]; rfl
  go_enter Try.func21, Try.ntmps21
  go_wp2
  go_ret
  exact ⟨rfl, rfl⟩
theorem dDead_nil (w : World) :
    Calls Try.prog 21 #[.pointer none] w fun e w' => e = .returned (.bool false) ∧ w = w' := by
  go_enter Try.func21, Try.ntmps21
  go_wp2
  go_ret
  exact ⟨rfl, rfl⟩
theorem dnamed (nm : List UInt8) (w : World) (hl : nm.length ≤ maxLen) :
    Calls Try.prog 59 #[.string ⟨nm.toArray⟩] w fun e w' => e = .returned (.bool (named nm)) ∧ w = w' := by
  unfold maxLen at hl
  by_cases h0 : nm = []
  · subst h0
    go_enter Try.func59, Try.ntmps59
    go_wp2
    go_ret
    exact ⟨rfl, rfl⟩
  · have h1 : 1 ≤ nm.length := by cases nm with | nil => exact absurd rfl h0 | cons x l => simp
    have h2 : nm.isEmpty = false := by cases nm with | nil => exact absurd rfl h0 | cons x l => rfl
    have e : named nm = decide ((nm.length : Int) ≤ 20) := by unfold named; rw [decide_eq_true h1, Bool.true_and]; exact decide_eq_decide.2 (by omega)
    rw [e]
    clear e
    go_enter Try.func59, Try.ntmps59
    go_wp2
    go_ret
    exact ⟨rfl, rfl⟩
end Go.Proofs.Ytdabflkejhoghaa.Hand
