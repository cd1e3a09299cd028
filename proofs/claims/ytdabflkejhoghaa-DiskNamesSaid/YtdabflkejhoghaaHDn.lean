/- A crash, file by file. -/
import Derived.Below
import Derived.Deep.Draws
import Derived.Deep.AppendLies
import Derived.Maps.AppendAt
import Derived.OwnWalk
import Derived.Laws.BytesArg
import Derived.Laws.MakeOwn
import Derived.Laws.OwnMore
import Derived.Deep.OwnRows
import Derived.Tactics
import Derived.Lib.ConvBytes
import Derived.Laws.Slices
import Derived.WalkKit
import Derived.KernelRfl
import Derived.RowKit3
import Derived.Deep.LoopGhost
import Derived.Deep.QuietTactic
import Derived.BigQuiet
import Derived.WideLaws
import Derived.Deep.DeepCutAuto
import Derived.Deep.CutBlock
import Derived.Deep.RegionHeld3
import Derived.Laws.Rows
import Derived.Lib.AppendStr
import Derived.ArgAppend
import Derived.Laws.IdiomCopy
import Derived.OrdersHeld
import Derived.Laws.BitsLemmas
import Derived.RowKit
import Derived.Outline
import Derived.Maps.Own
import Derived.Maps.OwnOps
import Derived.Maps.OwnSet
import Derived.Maps.Views
import Derived.Maps.RangeWalk
import Derived.Maps.Ext
import Derived.RangeFuncOwn
import Derived.OneCell
import Derived.Deep.DeepMust
import Derived.Lib.Hide
import Derived.StillTailTactics
import Derived.Laws.AppendOwnNone
import Derived.WalkMore
import Derived.Test.YtdabflkejhoghaaHDl
namespace Go.Proofs.Ytdabflkejhoghaa.Hand
open Go Go.RowKit Go.Maps Go.WideMaps Go.Sort
set_option linter.unusedVariables false
/-- what is left to keep behind some files -/
def spend : Nat → List F → Nat
  | k, [] => k
  | k, f :: r => spend (k - min (f.b.length - f.lasts) k) r
def crash1 (k : Nat) (f : F) : F := ⟨f.name, f.b.take (f.lasts + min (f.b.length - f.lasts) k), f.lasts + min (f.b.length - f.lasts) k⟩
theorem crashL_cons (k : Nat) (f : F) (r : List F) : crashL k (f :: r) = crash1 k f :: crashL (k - min (f.b.length - f.lasts) k) r := rfl
theorem crashL_append : ∀ (k : Nat) (l r : List F), crashL k (l ++ r) = crashL k l ++ crashL (spend k l) r
  | _, [], _ => rfl
  | k, f :: l, r => by simp [crashL_cons, spend, crashL_append _ l r]
theorem spend_append : ∀ (k : Nat) (l r : List F), spend k (l ++ r) = spend (spend k l) r
  | _, [], _ => rfl
  | k, f :: l, r => by simp [spend, spend_append _ l r]
theorem spend_le : ∀ (k : Nat) (l : List F), spend k l ≤ k
  | _, [] => Nat.le_refl _
  | k, f :: l => by have := spend_le (k - min (f.b.length - f.lasts) k) l; simp only [spend]; omega
/-- a disk, its first k files cut -/
def Dk.part (d : Dk) (K k : Nat) : Dk := ⟨crashL K (d.files.take k) ++ d.files.drop k, d.room, d.fuse, d.dead⟩
theorem part_names (d : Dk) (K k : Nat) : (d.part K k).files.map F.name = d.files.map F.name := by
  show (crashL K (d.files.take k) ++ d.files.drop k).map F.name = _
  rw [List.map_append, crashL_names, ← List.map_append, List.take_append_drop]
theorem Dk.Ok.part {d : Dk} (h : d.Ok) (K k : Nat) : (d.part K k).Ok := by
  have hn := part_names d K k
  refine ⟨rising_names hn h.rising, ?_, ?_, ?_, h.room, ?_⟩
  · intro f hf
    have : f.name ∈ d.files.map F.name := by rw [← hn]; exact List.mem_map_of_mem hf
    obtain ⟨g, hg, e⟩ := List.mem_map.1 this
    rw [← e]; exact h.names g hg
  · intro f hf
    rcases List.mem_append.1 hf with hf | hf
    · exact Nat.le_of_eq (crashL_lasts _ _ (fun g hg => h.lasts g (List.mem_of_mem_take hg)) f hf)
    · exact h.lasts f (List.mem_of_mem_drop hf)
  · show Hand.used (crashL K (d.files.take k) ++ d.files.drop k) ≤ d.room
    have h1 := crashL_used K (d.files.take k)
    have h2 : Hand.used (d.files.take k) + Hand.used (d.files.drop k) = Hand.used d.files := by rw [← used_append, List.take_append_drop]
    have := h.used
    rw [used_append]; omega
  · have := congrArg List.length hn
    simp only [List.length_map] at this
    rw [this]; exact h.few
theorem part_zero (d : Dk) (K : Nat) : d.part K 0 = d := by simp [Dk.part, crashL]
theorem part_all (d : Dk) (K : Nat) : (d.part K d.files.length).files = crashL K d.files := by simp [Dk.part]
theorem part_step {d : Dk} (h : d.Ok) {K k : Nat} (hk : k < d.files.length) :
    (d.part K k).look d.files[k].name = some d.files[k] ∧ (d.part K (k + 1)).files = putBy F.name (crash1 (spend K (d.files.take k)) d.files[k]) (d.part K k).files ∧
      spend K (d.files.take (k + 1)) = spend K (d.files.take k) - min (d.files[k].b.length - d.files[k].lasts) (spend K (d.files.take k)) := by
  have e1 : d.files.drop k = d.files[k] :: d.files.drop (k + 1) := List.drop_eq_getElem_cons hk
  have e2 : d.files.take (k + 1) = d.files.take k ++ [d.files[k]] := List.take_succ_eq_append_getElem hk
  obtain ⟨f, hf⟩ : ∃ f, f = d.files[k] := ⟨_, rfl⟩
  rw [← hf] at e1 e2 ⊢
  have hr : Rising F.name (crashL K (d.files.take k) ++ f :: d.files.drop (k + 1)) := by
    have := (h.part K k).rising
    unfold Dk.part at this
    rwa [e1] at this
  refine ⟨?_, ?_, ?_⟩
  · show lookBy F.name f.name (crashL K (d.files.take k) ++ d.files.drop k) = _
    rw [e1]
    unfold lookBy
    rw [List.find?_append]
    have hn : (crashL K (d.files.take k)).find? (fun y => y.name == f.name) = none := by
      rw [List.find?_eq_none]
      intro y hy
      have := (List.pairwise_append.1 hr).2.2 y hy f (by simp)
      simpa using bb_ne this
    rw [hn]
    simp
  · show crashL K (d.files.take (k + 1)) ++ d.files.drop (k + 1) = putBy F.name _ (crashL K (d.files.take k) ++ d.files.drop k)
    rw [e1, putBy_split hr (x' := crash1 (spend K (d.files.take k)) f) rfl, e2, crashL_append]
    simp [crashL, crash1]
  · rw [e2, spend_append]; rfl
end Go.Proofs.Ytdabflkejhoghaa.Hand
