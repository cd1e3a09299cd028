/- Boxes of disks and files: load and store. -/
import Derived.Below
import Derived.Deep.Draws
import Derived.Deep.AppendLies
import Derived.Maps.AppendAt
import Derived.OwnWalk
import Derived.Laws.BytesArg
import Derived.Laws.MakeOwn
import Derived.Laws.OwnMore
import Derived.Deep.OwnRows
import Derived.Tactics
import Derived.Lib.ConvBytes
import Derived.Laws.Slices
import Derived.WalkKit
import Derived.KernelRfl
import Derived.RowKit3
import Derived.Deep.LoopGhost
import Derived.Deep.QuietTactic
import Derived.BigQuiet
import Derived.WideLaws
import Derived.Deep.DeepCutAuto
import Derived.Deep.CutBlock
import Derived.Deep.RegionHeld3
import Derived.Laws.Rows
import Derived.Lib.AppendStr
import Derived.ArgAppend
import Derived.Laws.IdiomCopy
import Derived.OrdersHeld
import Derived.Laws.BitsLemmas
import Derived.RowKit
import Derived.Outline
import Derived.Maps.Own
import Derived.Maps.OwnOps
import Derived.Maps.OwnSet
import Derived.Maps.Views
import Derived.Maps.RangeWalk
import Derived.Maps.Ext
import Derived.RangeFuncOwn
import Derived.OneCell
import Derived.Deep.DeepMust
import Derived.Lib.Hide
import Derived.StillTailTactics
import Derived.Laws.AppendOwnNone
import Derived.WalkMore
import Derived.Lib.SlBytesConst
import Derived.WalkLawsBesides
import Derived.Laws.BitsAllLaws
import Derived.Test.YtdabflkejhoghaaGreatHRy
namespace Go.Proofs.YtdabflkejhoghaaGreat.Hand
open Go Go.RowKit Go.Maps Go.WideMaps
set_option linter.unusedVariables false
set_option linter.unusedSimpArgs false
theorem infoF3 : (Tryz.prog.info? 65).map (·.size) = some 3 := by kernel_rfl
theorem setRow_at {w : World} {g : Nat} {t : TypeId} {old : Array Value} {fr : Nat × Nat} (hg : w.heap[g]? = some (.cells old t fr)) (cs : Array Value) : (w.setRow g cs).heap[g]? = some (.cells cs t fr) := by
  simp [World.setRow, Array.getElem?_modify, hg]
theorem setRow_kp (w : World) (g : Nat) (cs : Array Value) : Kp [g] w.heap.size w (w.setRow g cs) ∧ (w.setRow g cs).heap.size = w.heap.size :=
  ⟨⟨rfl, rfl, rfl, by simp [World.setRow], fun k _ hn => by
    have hn' : ¬ g = k := fun e => hn (by simp [e])
    simp [World.setRow, Array.getElem?_modify, hn']⟩, by simp [World.setRow]⟩
/-- a disk is read out of its box -/
theorem wpList_ldT {w : World} {ops : Array Oper} {rest : List Oper} {o : Oper} {a : Act} {Q : Exit → Act → World → Prop} (hgd : o.guard = none) (x : Operand) (ho : o.op = .load 31 x) (g : Nat) (cs : Array Value)
    (hx : a.eval x = .pointer (some ⟨g, 0, none⟩)) (hg : w.heap[g]? = some (.cells cs 31 (0, 0))) (hc : cs.size = 5) (h : wpList Tryz.prog ops Q rest (a.put o.dst (.agg cs)) w) : wpList Tryz.prog ops Q (o :: rest) a w :=
  wpList_load_row hgd 31 x ho g hx 31 cs (0, 0) _ hg Tryz.underlying31 rfl (by rw [infoT, hc]) h
/-- a disk is laid into its box -/
theorem wpList_stT {w : World} {ops : Array Oper} {rest : List Oper} {o : Oper} {a : Act} {Q : Exit → Act → World → Prop} (hgd : o.guard = none) (x y : Operand) (ho : o.op = .store 31 x y) (g : Nat) (v0 v1 v2 v3 v4 : Value) (old : Array Value)
    (hx : a.eval x = .pointer (some ⟨g, 0, none⟩)) (hy : a.eval y = .agg #[v0, v1, v2, v3, v4]) (hg : w.heap[g]? = some (.cells old 31 (0, 0))) (ho5 : old.size = 5) (h1 : v0.oneCell' = true ∧ v1.oneCell' = true ∧ v2.oneCell' = true ∧ v3.oneCell' = true ∧ v4.oneCell' = true)
    (h : ∀ w', w'.heap[g]? = some (.cells #[v0, v1, v2, v3, v4] 31 (0, 0)) → Kp [g] w.heap.size w w' → w'.heap.size = w.heap.size → wpList Tryz.prog ops Q rest (a.put o.dst undef) w') : wpList Tryz.prog ops Q (o :: rest) a w :=
  wpList_store_row hgd 31 x y ho g #[v0, v1, v2, v3, v4] hx hy 31 old hg infoT (by rw [ho5]; rfl) (by simp [h1]) (h _ (setRow_at hg _) (setRow_kp w g _).1 (setRow_kp w g _).2)
theorem wpList_ldF {w : World} {ops : Array Oper} {rest : List Oper} {o : Oper} {a : Act} {Q : Exit → Act → World → Prop} (hgd : o.guard = none) (x : Operand) (ho : o.op = .load 65 x) (g : Nat) (cs : Array Value)
    (hx : a.eval x = .pointer (some ⟨g, 0, none⟩)) (hg : w.heap[g]? = some (.cells cs 65 (0, 0))) (hc : cs.size = 3) (h : wpList Tryz.prog ops Q rest (a.put o.dst (.agg cs)) w) : wpList Tryz.prog ops Q (o :: rest) a w :=
  wpList_load_row hgd 65 x ho g hx 65 cs (0, 0) _ hg Tryz.underlying65 rfl (by rw [infoF3, hc]) h
theorem wpList_stF {w : World} {ops : Array Oper} {rest : List Oper} {o : Oper} {a : Act} {Q : Exit → Act → World → Prop} (hgd : o.guard = none) (x y : Operand) (ho : o.op = .store 65 x y) (g : Nat) (v0 v1 v2 : Value) (old : Array Value)
    (hx : a.eval x = .pointer (some ⟨g, 0, none⟩)) (hy : a.eval y = .agg #[v0, v1, v2]) (hg : w.heap[g]? = some (.cells old 65 (0, 0))) (ho5 : old.size = 3) (h1 : v0.oneCell' = true ∧ v1.oneCell' = true ∧ v2.oneCell' = true)
    (h : ∀ w', w'.heap[g]? = some (.cells #[v0, v1, v2] 65 (0, 0)) → Kp [g] w.heap.size w w' → w'.heap.size = w.heap.size → wpList Tryz.prog ops Q rest (a.put o.dst undef) w') : wpList Tryz.prog ops Q (o :: rest) a w :=
  wpList_store_row hgd 65 x y ho g #[v0, v1, v2] hx hy 65 old hg infoF3 (by rw [ho5]; rfl) (by simp [h1]) (h _ (setRow_at hg _) (setRow_kp w g _).1 (setRow_kp w g _).2)
theorem boxT {w : World} {g : Nat} {x0 x1 x2 x3 x4 : Value} {t : TypeId} {fr : Nat × Nat} (h : w.heap[g]? = some (.cells #[x0, x1, x2, x3, x4] t fr)) : w.cell? ⟨g, 0, none⟩ = some x0 ∧ w.cell? ⟨g, 1, none⟩ = some x1 ∧ w.cell? ⟨g, 2, none⟩ = some x2 ∧ w.cell? ⟨g, 3, none⟩ = some x3 ∧ w.cell? ⟨g, 4, none⟩ = some x4 :=
  ⟨by rw [Lib.cell_of_heap h]; rfl, by rw [Lib.cell_of_heap h]; rfl, by rw [Lib.cell_of_heap h]; rfl, by rw [Lib.cell_of_heap h]; rfl, by rw [Lib.cell_of_heap h]; rfl⟩
theorem boxF {w : World} {g : Nat} {x0 x1 x2 : Value} {t : TypeId} {fr : Nat × Nat} (h : w.heap[g]? = some (.cells #[x0, x1, x2] t fr)) : w.cell? ⟨g, 0, none⟩ = some x0 ∧ w.cell? ⟨g, 1, none⟩ = some x1 ∧ w.cell? ⟨g, 2, none⟩ = some x2 :=
  ⟨by rw [Lib.cell_of_heap h]; rfl, by rw [Lib.cell_of_heap h]; rfl, by rw [Lib.cell_of_heap h]; rfl⟩
end Go.Proofs.YtdabflkejhoghaaGreat.Hand
