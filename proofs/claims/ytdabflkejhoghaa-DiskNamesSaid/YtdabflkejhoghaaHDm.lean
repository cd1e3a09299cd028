/- Copy. -/
import Derived.Below
import Derived.Deep.Draws
import Derived.Deep.AppendLies
import Derived.Maps.AppendAt
import Derived.OwnWalk
import Derived.Laws.BytesArg
import Derived.Laws.MakeOwn
import Derived.Laws.OwnMore
import Derived.Deep.OwnRows
import Derived.Tactics
import Derived.Lib.ConvBytes
import Derived.Laws.Slices
import Derived.WalkKit
import Derived.KernelRfl
import Derived.RowKit3
import Derived.Deep.LoopGhost
import Derived.Deep.QuietTactic
import Derived.BigQuiet
import Derived.WideLaws
import Derived.Deep.DeepCutAuto
import Derived.Deep.CutBlock
import Derived.Deep.RegionHeld3
import Derived.Laws.Rows
import Derived.Lib.AppendStr
import Derived.ArgAppend
import Derived.Laws.IdiomCopy
import Derived.OrdersHeld
import Derived.Laws.BitsLemmas
import Derived.RowKit
import Derived.Outline
import Derived.Maps.Own
import Derived.Maps.OwnOps
import Derived.Maps.OwnSet
import Derived.Maps.Views
import Derived.Maps.RangeWalk
import Derived.Maps.Ext
import Derived.RangeFuncOwn
import Derived.OneCell
import Derived.Deep.DeepMust
import Derived.Lib.Hide
import Derived.StillTailTactics
import Derived.Laws.AppendOwnNone
import Derived.WalkMore
import Derived.Test.YtdabflkejhoghaaHDk
namespace Go.Proofs.Ytdabflkejhoghaa.Hand
open Go Go.RowKit Go.Maps Go.WideMaps
set_option linter.unusedVariables false
set_option maxHeartbeats 1600000 in
set_option maxRecDepth 100000 in
theorem dCopy (A : Nat → Prop) (p mb : Nat) (d : Dk) (w : World) (h : IsDisk w A p mb d) :
    Calls Try.prog 41 #[.pointer (some ⟨p, 0, none⟩)] w fun e w' => e = .returned (.pointer (some ⟨w.heap.size, 0, none⟩)) ∧ Kp [] w.heap.size w w' ∧
      IsDisk w' A p mb d ∧ ∀ A' : Nat → Prop, (∀ k, k < w.heap.size → A k → A' k) → ¬ A' w.heap.size → ¬ A' (w.heap.size + 1) → IsDisk w' A' w.heap.size (w.heap.size + 1) d := by
  obtain ⟨left, gs, ⟨c0, c1, c2, c3, c4⟩, _, hl, hgs, hown, hf⟩ := h.cells
  have hlt := h.lt
  have hpl := hlt.1
  have hml := hlt.2
  have hcl : ∀ w : World, w.ownsMap Try.prog 9 heldR mb gs.length (entsD gs) → Calls Try.prog 71 #[.map (some mb)] w fun e w' => e = .returned (.map (some w.heap.size)) ∧ w'.ownsMap Try.prog 9 heldR w.heap.size gs.length (entsD gs) ∧ w'.ownsMap Try.prog 9 heldR mb gs.length (entsD gs) ∧ Below w.heap.size w w' :=
    fun w ho => AnyW.maps_Clone_owns Try.mclone71 9 heldR mb gs.length (entsD gs) w ho
  have HL := Lib.hid hl; have HGS := Lib.hid hgs; have HF := Lib.hid hf
  clear hl hgs hf
  go_enter Try.func41, Try.ntmps41
  go_wp2_with (go_at_call 71; go_must ((with_reducible refine (hcl _ (hown.alloc _)).mono ?_); rintro e w1 ⟨rfl, ho1, ho2, hb⟩); have hblk := (hb.block w.heap.size (by simp)).trans (World.alloc_heap_new w _); have HB1 := Lib.hid hblk; have k0 : w1.cell? ⟨w.heap.size, 0, none⟩ = some (.map (some mb)) := (Lib.cell_of_heap hblk 0).trans rfl; have f0 : w1.frozen? ⟨w.heap.size, 0, none⟩ = false := Lib.frozen_of_heap hblk 0; have HB := Lib.hid hb; have HO1 := Lib.hid ho1; have HO2 := Lib.hid ho2; clear hblk hb ho1 ho2)
  go_ret
  have hb1 : Kp [] w.heap.size w w1 := (Kp.of_below (((Below.refl _ w).alloc (Nat.le_refl _) _).trans (HB.out.mono (by simp))) (Nat.le_refl _))
  have hk : Kp [] w.heap.size w (w1.setCell ⟨w.heap.size, 0, none⟩ (.map (some (w.heap.size + 1)))) := hb1.setCell (.inl (Nat.le_refl _)) 0 none _
  refine ⟨rfl, hk, h.kp_ge hk, fun A' hA h1 h2 => ?_⟩
  refine ⟨left, gs, ?_, HL.out, HGS.out, ?_, fun g hg => (HF.out g hg).mono hk.size (fun k ha hl => ⟨hA k hl ha, hk.block k hl (by simp)⟩), ⟨by omega, h1, h2⟩, h.ok⟩
  · simp [World.setCell, Array.getElem?_modify, HB1.out]
  · have ho := HO1.out
    have e : (w.alloc (.cells #[.map (some mb), .int .i64 (d.room : Int), .bool d.fuse.isSome, .int .i64 left, .bool d.dead] 90)).heap.size = w.heap.size + 1 := by simp
    rw [e] at ho
    exact ownsMap_kept ho (Below.heap_setCell _ _ _ _ (by simp))
theorem dCopy_nil (w : World) : Calls Try.prog 41 #[.pointer none] w fun e w' => e = .returned (.pointer none) ∧ w = w' := by
  go_enter Try.func41, Try.ntmps41
  go_wp2
  go_ret
  exact ⟨rfl, rfl⟩
end Go.Proofs.Ytdabflkejhoghaa.Hand
