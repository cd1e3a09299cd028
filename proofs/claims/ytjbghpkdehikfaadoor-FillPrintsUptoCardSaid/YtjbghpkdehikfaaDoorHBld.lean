/- fill: a strings.Builder that a call makes, with a frame that keeps the rows beside it. -/
import Derived.Test.YtjbghpkdehikfaaDoorProg
import Derived.Below
import Derived.Deep.Draws
import Derived.Deep.AppendLies
import Derived.Maps.AppendAt
import Derived.OwnWalk
import Derived.Laws.BytesArg
import Derived.Laws.MakeOwn
import Derived.Laws.OwnMore
import Derived.Deep.OwnRows
import Derived.Tactics
import Derived.Lib.ConvBytes
import Derived.Laws.Slices
import Derived.WalkKit
import Derived.KernelRfl
import Derived.RowKit3
import Derived.Deep.LoopGhost
import Derived.Deep.QuietTactic
import Derived.BigQuiet
import Derived.WideLaws
import Derived.Deep.DeepCutAuto
import Derived.Deep.CutBlock
import Derived.Deep.RegionHeld3
import Derived.Laws.Rows
import Derived.Lib.AppendStr
import Derived.ArgAppend
import Derived.Laws.IdiomCopy
import Derived.OrdersHeld
import Derived.Laws.BitsLemmas
import Derived.RowKit
import Derived.Test.YtjbghpkdehikfaaDoorWWords
import Derived.Test.YtjbghpkdehikfaaDoorWLast
import Derived.Test.YtjbghpkdehikfaaDoorWTab
import Derived.Test.YtjbghpkdehikfaaDoorWFour
import Derived.Test.YtjbghpkdehikfaaDoorWQPut
import Derived.Test.YtjbghpkdehikfaaDoorWApart
import Derived.Test.YtjbghpkdehikfaaDoorWArr
import Derived.Test.YtjbghpkdehikfaaDoorWZeros
import Derived.Test.YtjbghpkdehikfaaDoorWFoot
import Derived.Test.YtjbghpkdehikfaaDoorWKept
import Derived.Test.YtjbghpkdehikfaaDoorWShare
import Derived.Test.YtjbghpkdehikfaaDoorWN
import Derived.Test.YtjbghpkdehikfaaDoorWFootNe
import Derived.Test.YtjbghpkdehikfaaDoorWAt
import Derived.Test.YtjbghpkdehikfaaDoorWEqStruct
import Derived.Test.YtjbghpkdehikfaaDoorWRepsOne
import Derived.Test.YtjbghpkdehikfaaDoorWInv
import Derived.Test.YtjbghpkdehikfaaDoorWInvWords
import Derived.Test.YtjbghpkdehikfaaDoorWGuard
import Derived.Test.YtjbghpkdehikfaaDoorWNEv
import Derived.Test.YtjbghpkdehikfaaDoorWMore
import Derived.Outline
import Derived.Test.YtjbghpkdehikfaaDoorHLay
import Derived.Laws.AppendOwn
namespace Go.Proofs.YtjbghpkdehikfaaDoor.Hand
open Go.RowKit
set_option linter.unusedVariables false
/-- The builder in block b; its buffer is nil or a row of its own at lo or beyond; b lies below lo. -/
def Bl (lo b : Nat) (bs : List Value) (w : World) : Prop :=
  b < lo ∧ lo ≤ w.heap.size ∧ ∃ p v, w.heap[b]? = some (.cells #[p, v] 65 (0, 0)) ∧ (p = .pointer none ∨ p = .pointer (some ⟨b, 0, none⟩)) ∧ w.ownsRow lo 5 1 v bs.length bs
/-- Below lo, but for block b, the world is as it was. -/
structure Kept (lo b : Nat) (w w' : World) : Prop where
  os : w'.os = w.os
  tape : w'.tape = w.tape
  output : w'.output = w.output
  size : w.heap.size ≤ w'.heap.size
  block : ∀ k, k < lo → k ≠ b → w'.heap[k]? = w.heap[k]?
theorem Kept.refl (lo b : Nat) (w : World) : Kept lo b w w := ⟨rfl, rfl, rfl, Nat.le_refl _, fun _ _ _ => rfl⟩
theorem Kept.trans {lo b : Nat} {x y z : World} (h : Kept lo b x y) (k : Kept lo b y z) : Kept lo b x z :=
  ⟨k.os.trans h.os, k.tape.trans h.tape, k.output.trans h.output, Nat.le_trans h.size k.size, fun i hi hb => (k.block i hi hb).trans (h.block i hi hb)⟩
theorem Kept.of_below {lo b : Nat} {w w' : World} (h : Below lo w w') : Kept lo b w w' := ⟨h.os, h.tape, h.output, h.size, fun k hk _ => h.block k hk⟩
theorem Kept.below {lo b B : Nat} {w w' : World} (h : Kept lo b w w') (h1 : B ≤ lo) (h2 : B ≤ b) : Below B w w' := ⟨h.os, h.tape, h.output, h.size, fun k hk => h.block k (by omega) (by omega)⟩
theorem Kept.setCell {lo b : Nat} {w w' : World} (h : Kept lo b w w') (j : Nat) (u : Value) : Kept lo b w (w'.setCell ⟨b, j, none⟩ u) :=
  h.trans ⟨rfl, rfl, rfl, by simp [World.setCell], fun k _ hb => Below.heap_setCell _ _ _ _ hb⟩
theorem Kept.alloc {lo b : Nat} {w w' : World} (h : Kept lo b w w') (hl : lo ≤ w'.heap.size) (o : Obj) : Kept lo b w (w'.alloc o) :=
  h.trans (Kept.of_below ((Below.refl _ _).alloc hl o))
theorem Kept.drew {lo b : Nat} {w w' : World} (h : Kept lo b w w') : Kept lo b w w'.drew := ⟨h.os, h.tape, h.output, h.size, h.block⟩
theorem Kept.cell {lo b : Nat} {w w' : World} (h : Kept lo b w w') {p : Addr} (hp : p.block < lo) (hb : p.block ≠ b) : w'.cell? p = w.cell? p := World.cell?_of_block (w := w) (h.block p.block hp hb)
theorem Kept.blk {lo b : Nat} {w w' : World} (h : Kept lo b w w') {k : Nat} {o : Obj} (hk : k < lo) (hb : k ≠ b) (e : w.heap[k]? = some o) : w'.heap[k]? = some o := (h.block k hk hb).trans e
theorem Bl.fresh {w : World} (b : Nat) (lo : Nat) (h : w.heap[b]? = some (.cells #[.pointer none, .slice none 0 0] 65 (0, 0))) (h1 : b < lo) (h2 : lo ≤ w.heap.size) : Bl lo b [] w :=
  ⟨h1, h2, _, _, h, .inl rfl, World.ownsRow_nil _ _ _ _⟩
theorem Bl.is {lo b : Nat} {bs : List Value} {w : World} (h : Bl lo b bs w) : Lib.IsBuilder 65 5 b b bs w := by
  obtain ⟨h1, h2, p, v, hb, hp, hown⟩ := h
  have hown' : w.ownsRow b 5 1 v bs.length bs := by
    refine ⟨hown.1, ?_⟩
    rcases hown.2 with h | ⟨g, cap, cur, hv, hg, rest⟩
    · exact .inl h
    · exact .inr ⟨g, cap, cur, hv, by omega, rest⟩
  have hne : v.ownBlock ≠ some b := by
    rcases hown.2 with ⟨rfl, _⟩ | ⟨g, cap, cur, rfl, hg, rest⟩
    · simp [Value.ownBlock]
    · simp [Value.ownBlock]; omega
  rcases hp with rfl | rfl
  · exact .inl ⟨Nat.le_refl _, v, hb, hown', hne⟩
  · exact .inr ⟨Nat.le_refl _, v, hb, hown', hne⟩
theorem Bl.alloc {lo b : Nat} {bs : List Value} {w : World} (h : Bl lo b bs w) (o : Obj) : Bl lo b bs (w.alloc o) := by
  obtain ⟨h1, h2, p, v, hb, hp, hown⟩ := h
  exact ⟨h1, by simp; omega, p, v, (Below.heap_alloc w o b (by omega)).trans hb, hp, hown.alloc o⟩
theorem Bl.drew {lo b : Nat} {bs : List Value} {w : World} (h : Bl lo b bs w) : Bl lo b bs w.drew := h
end Go.Proofs.YtjbghpkdehikfaaDoor.Hand
