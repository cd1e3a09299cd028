/- The reference's log: Append. -/
import Derived.Below
import Derived.Deep.Draws
import Derived.Deep.AppendLies
import Derived.Maps.AppendAt
import Derived.OwnWalk
import Derived.Laws.BytesArg
import Derived.Laws.MakeOwn
import Derived.Laws.OwnMore
import Derived.Deep.OwnRows
import Derived.Tactics
import Derived.Lib.ConvBytes
import Derived.Laws.Slices
import Derived.WalkKit
import Derived.KernelRfl
import Derived.RowKit3
import Derived.Deep.LoopGhost
import Derived.Deep.QuietTactic
import Derived.BigQuiet
import Derived.WideLaws
import Derived.Deep.DeepCutAuto
import Derived.Deep.CutBlock
import Derived.Deep.RegionHeld3
import Derived.Laws.Rows
import Derived.Lib.AppendStr
import Derived.ArgAppend
import Derived.Laws.IdiomCopy
import Derived.OrdersHeld
import Derived.Laws.BitsLemmas
import Derived.RowKit
import Derived.Outline
import Derived.Maps.Own
import Derived.Maps.OwnOps
import Derived.Maps.OwnSet
import Derived.Maps.Views
import Derived.Maps.RangeWalk
import Derived.Maps.Ext
import Derived.RangeFuncOwn
import Derived.OneCell
import Derived.Deep.DeepMust
import Derived.Lib.Hide
import Derived.StillTailTactics
import Derived.Laws.AppendOwnNone
import Derived.WalkMore
import Derived.Lib.SlBytesConst
import Derived.WalkLawsBesides
import Derived.Laws.BitsAllLaws
import Derived.Test.YtdabflkejhoghaaGreatHWa
import Derived.Test.YtdabflkejhoghaaGreatWLast
import Derived.Test.YtdabflkejhoghaaGreatHSh
namespace Go.Proofs.YtdabflkejhoghaaGreat.Hand
open Go Go.RowKit Go.Maps Go.WideMaps Go.Proofs.YtdabflkejhoghaaGreat.HW Go.Proofs.YtdabflkejhoghaaGreatW.PrintLast
set_option linter.unusedVariables false
set_option linter.unusedSimpArgs false
set_option maxRecDepth 100000 in
theorem r13Frame_long {A : Nat → Prop} (v : Value) (seq : Nat) (b : List UInt8) (w : World) (h : BytesV w A v b) (hl : 65536 < b.length) :
    Calls Tryz.prog 49 #[.int .u64 (seq : Int), v] w fun e w' => e = .returned (.tuple #[.slice none 0 0, .int .i64 3]) ∧ w = w' := by
  obtain ⟨ao, cap, rfl, -, -, -⟩ := id h
  obtain ⟨m, hm⟩ : ∃ m, m = b.length := ⟨_, rfl⟩
  rw [← hm] at hl ⊢
  clear h hm
  have d1 : decide ((65536 : Int) < (m : Int)) = true := decide_eq_true (by omega)
  go_enter Tryz.func49, Tryz.ntmps49
  go_wp2
  go_ret2
  exact ⟨rfl, rfl⟩
/-- the boxes of a log that is handed in, and of the log that is answered -/
structure BoxesA (w w3 : World) (x0 x1 x2 x3 x4 x5 x6 : Value) : Prop where
  kp : Kp [] w.heap.size w w3
  size : w.heap.size + 2 ≤ w3.heap.size
  box : w3.heap[w.heap.size]? = some (.cells #[x0, x1, x2, x3, x4, x5, x6] 35 (0, 0))
  ans : w3.heap[w.heap.size + 1]? = some (.cells #[.slice none 0 0, .int .i64 0, .bool false, .int .i64 0, .bool false, .int .u64 0, .bool false] 35 (0, 0))
theorem BoxesA.new (w : World) (x0 x1 x2 x3 x4 x5 x6 : Value) : BoxesA w ((w.alloc (.cells #[x0, x1, x2, x3, x4, x5, x6] 35)).alloc (.cells #[.slice none 0 0, .int .i64 0, .bool false, .int .i64 0, .bool false, .int .u64 0, .bool false] 35)) x0 x1 x2 x3 x4 x5 x6 :=
  ⟨kp2 _ _ _, by simp, (Below.heap_alloc _ _ _ (by simp)).trans (World.alloc_heap_new w _), new_at _ _ _ (by simp)⟩
theorem BoxesA.next {w w3 w4 : World} {x0 x1 x2 x3 x4 x5 x6 : Value} (h : BoxesA w w3 x0 x1 x2 x3 x4 x5 x6) (k : Kp [] w3.heap.size w3 w4) : BoxesA w w4 x0 x1 x2 x3 x4 x5 x6 :=
  ⟨h.kp.trans (k.mono (by simp) (by have := h.size; omega)), Nat.le_trans h.size k.size, (k.block _ (by have := h.size; omega) (by simp)).trans h.box, (k.block _ (by have := h.size; omega) (by simp)).trans h.ans⟩
theorem BoxesA.put {w w3 w4 : World} {x0 x1 x2 x3 x4 x5 x6 y0 y1 y2 y3 y4 y5 y6 : Value} (h : BoxesA w w3 x0 x1 x2 x3 x4 x5 x6) (k : Kp [w.heap.size] w3.heap.size w3 w4) (hb : w4.heap[w.heap.size]? = some (.cells #[y0, y1, y2, y3, y4, y5, y6] 35 (0, 0))) : BoxesA w w4 y0 y1 y2 y3 y4 y5 y6 :=
  ⟨h.kp.trans (k.shed (B' := w.heap.size) (by simp) (by have := h.size; omega)), Nat.le_trans h.size k.size, hb, (k.block _ (by have := h.size; omega) (by simp)).trans h.ans⟩
theorem boxA {w : World} {g : Nat} {x0 x1 x2 x3 x4 x5 x6 : Value} {t : TypeId} {fr : Nat × Nat} (h : w.heap[g]? = some (.cells #[x0, x1, x2, x3, x4, x5, x6] t fr)) : w.cell? ⟨g, 0, none⟩ = some x0 ∧ w.cell? ⟨g, 1, none⟩ = some x1 ∧ w.cell? ⟨g, 2, none⟩ = some x2 ∧ w.cell? ⟨g, 3, none⟩ = some x3 ∧ w.cell? ⟨g, 4, none⟩ = some x4 ∧ w.cell? ⟨g, 5, none⟩ = some x5 ∧ w.cell? ⟨g, 6, none⟩ = some x6 :=
  ⟨by rw [Lib.cell_of_heap h]; rfl, by rw [Lib.cell_of_heap h]; rfl, by rw [Lib.cell_of_heap h]; rfl, by rw [Lib.cell_of_heap h]; rfl, by rw [Lib.cell_of_heap h]; rfl, by rw [Lib.cell_of_heap h]; rfl, by rw [Lib.cell_of_heap h]; rfl⟩
theorem frA {w : World} {g : Nat} {cs : Array Value} {t : TypeId} (h : w.heap[g]? = some (.cells cs t (0, 0))) : w.frozen? ⟨g, 0, none⟩ = false ∧ w.frozen? ⟨g, 1, none⟩ = false ∧ w.frozen? ⟨g, 2, none⟩ = false ∧ w.frozen? ⟨g, 3, none⟩ = false ∧ w.frozen? ⟨g, 4, none⟩ = false ∧ w.frozen? ⟨g, 5, none⟩ = false ∧ w.frozen? ⟨g, 6, none⟩ = false :=
  ⟨Lib.frozen_of_heap h 0, Lib.frozen_of_heap h 1, Lib.frozen_of_heap h 2, Lib.frozen_of_heap h 3, Lib.frozen_of_heap h 4, Lib.frozen_of_heap h 5, Lib.frozen_of_heap h 6⟩
theorem set7 {w : World} {g : Nat} {x0 x1 x2 x3 x4 x5 x6 : Value} {T : TypeId} (h : w.heap[g]? = some (.cells #[x0, x1, x2, x3, x4, x5, x6] T)) (v0 v1 v2 v3 v4 : Value) :
    (((((w.setCell ⟨g, 0, none⟩ v0).setCell ⟨g, 1, none⟩ v1).setCell ⟨g, 2, none⟩ v2).setCell ⟨g, 3, none⟩ v3).setCell ⟨g, 4, none⟩ v4).heap[g]? = some (.cells #[v0, v1, v2, v3, v4, x5, x6] T) := by
  simp [World.setCell, Array.getElem?_modify, h]
theorem set75 {w : World} {g : Nat} {x0 x1 x2 x3 x4 x5 x6 : Value} {T : TypeId} (h : w.heap[g]? = some (.cells #[x0, x1, x2, x3, x4, x5, x6] T)) (v : Value) : (w.setCell ⟨g, 5, none⟩ v).heap[g]? = some (.cells #[x0, x1, x2, x3, x4, v, x6] T) := by
  simp [World.setCell, Array.getElem?_modify, h]
theorem set76 {w : World} {g : Nat} {x0 x1 x2 x3 x4 x5 x6 : Value} {T : TypeId} (h : w.heap[g]? = some (.cells #[x0, x1, x2, x3, x4, x5, x6] T)) (v : Value) : (w.setCell ⟨g, 6, none⟩ v).heap[g]? = some (.cells #[x0, x1, x2, x3, x4, x5, v] T) := by
  simp [World.setCell, Array.getElem?_modify, h]
theorem noU8_A (o : Option Addr) (n c : Nat) (x : Int) (y : Bool) (z : Int) (t : Bool) (q : Int) (u : Bool) : NoU8 #[.slice o n c, .int .i64 x, .bool y, .int .i64 z, .bool t, .int .u64 q, .bool u] := noU8_of (by
  intro v hv
  simp only [List.mem_cons, List.not_mem_nil, or_false] at hv
  rcases hv with rfl | rfl | rfl | rfl | rfl | rfl | rfl <;> simp)
theorem step_dies {d : Dk} (h : d.step.2 = false) : d.step.1.dead = true := by
  unfold Dk.step at h ⊢
  split at h
  · rename_i hc; rw [if_pos hc]
  · cases h
theorem append_there {d : Dk} {nm b : List UInt8} (h : (d.append nm b).2 = true) : ∃ f, (d.append nm b).1.look nm = some f := by
  unfold Dk.append at h ⊢
  split at h
  · cases h
  · rename_i hc
    rw [if_neg hc]
    exact ⟨_, look_put_same' rfl⟩
theorem sync_dies {d : Dk} {nm : List UInt8} {f : F} (hl : d.look nm = some f) (h : (d.sync nm).2 = false) : (d.sync nm).1.dead = true := by
  rw [sync_some hl] at h ⊢
  split at h
  · cases h
  · rename_i hc
    rw [if_neg hc]
    exact step_dies (by simpa using hc)
theorem drop_dies {d : Dk} {nm : List UInt8} {f : F} (hl : d.look nm = some f) (h : (d.drop nm).2 = false) : (d.drop nm).1.dead = true := by
  rw [drop_some hl] at h ⊢
  split at h
  · cases h
  · rename_i hc
    rw [if_neg hc]
    exact step_dies (by simpa using hc)
set_option maxHeartbeats 1600000 in
set_option maxRecDepth 100000 in
/-- the reference's Long -/
theorem r14Long (d : Dk) (q : Nat) (br : Bool) (v : Value) (w : World) (h : IsT14 w v d q br) :
    Calls Tryz.prog 14 #[v] w fun e w' => e = .returned (.int .i64 ((d.old sLog).b.length : Nat)) ∧ Kp [] w.heap.size w w' := by
  obtain ⟨ao, n, cap, left, rfl, ht, hq⟩ := h
  have HT := Lib.hid ht
  clear ht
  go_enter Tryz.func14, Tryz.ntmps14
  go_wp2_with fail
  refine (rRead d _ sLog _ (HT.out.kp (kp1 w (.cells #[.slice ao n cap, .int .i64 (d.room : Int), .bool d.fuse.isSome, .int .i64 left, .bool d.dead, .int .u64 (q : Int), .bool br] 35)))).mono ?_
  rintro e w4 ⟨vb, rfl, hb4, k4⟩
  obtain ⟨ob, cb, rfl, -, -, -⟩ := id hb4
  have K4 := Lib.hid ((kp1 w (.cells #[.slice ao n cap, .int .i64 (d.room : Int), .bool d.fuse.isSome, .int .i64 left, .bool d.dead, .int .u64 (q : Int), .bool br] 35)).trans (k4.mono (by simp) (by simp)))
  clear k4 hb4
  go_wp2
  go_ret
  exact ⟨rfl, K4.out⟩
set_option maxRecDepth 100000 in
/-- the law's seq -/
theorem l14seq (d : Dk) (q : Nat) (br : Bool) (v : Value) (lp : Option Addr) (w : World) (h : IsT14 w v d q br) :
    Calls Tryz.prog 12 #[v, .pointer lp] w fun e w' => e = .returned (.int .u64 (if lp = none then 0 else (q : Int))) ∧ Kp [] w.heap.size w w' := by
  obtain ⟨ao, n, cap, left, rfl, ht, hq⟩ := h
  clear ht
  cases lp with
  | none =>
    go_enter Tryz.func12, Tryz.ntmps12
    go_wp2
    go_ret
    exact ⟨rfl, kp1 _ _⟩
  | some a =>
    go_enter Tryz.func12, Tryz.ntmps12
    go_wp2
    go_ret
    exact ⟨rfl, kp1 _ _⟩
end Go.Proofs.YtdabflkejhoghaaGreat.Hand
