/- Looks into a disk's map; there. -/
import Derived.Below
import Derived.Deep.Draws
import Derived.Deep.AppendLies
import Derived.Maps.AppendAt
import Derived.OwnWalk
import Derived.Laws.BytesArg
import Derived.Laws.MakeOwn
import Derived.Laws.OwnMore
import Derived.Deep.OwnRows
import Derived.Tactics
import Derived.Lib.ConvBytes
import Derived.Laws.Slices
import Derived.WalkKit
import Derived.KernelRfl
import Derived.RowKit3
import Derived.Deep.LoopGhost
import Derived.Deep.QuietTactic
import Derived.BigQuiet
import Derived.WideLaws
import Derived.Deep.DeepCutAuto
import Derived.Deep.CutBlock
import Derived.Deep.RegionHeld3
import Derived.Laws.Rows
import Derived.Lib.AppendStr
import Derived.ArgAppend
import Derived.Laws.IdiomCopy
import Derived.OrdersHeld
import Derived.Laws.BitsLemmas
import Derived.RowKit
import Derived.Outline
import Derived.Maps.Own
import Derived.Maps.OwnOps
import Derived.Maps.OwnSet
import Derived.Maps.Views
import Derived.Maps.RangeWalk
import Derived.Maps.Ext
import Derived.RangeFuncOwn
import Derived.OneCell
import Derived.Deep.DeepMust
import Derived.Test.YtdabflkejhoghaaHDa
namespace Go.Proofs.Ytdabflkejhoghaa.Hand
open Go Go.RowKit Go.Maps Go.WideMaps
set_option linter.unusedVariables false
theorem zeroFile (w : World) : (zeroValue 103).run Try.prog w = .ok (.agg #[.slice none 0 0, .int .i64 0]) w := by kernel_rfl
theorem look_g {d : Dk} {gs : List G} (h : d.files = gs.map (·.1)) (nm : List UInt8) : d.look nm = (lookBy gname nm gs).map (·.1) := by
  unfold Dk.look; rw [h]; exact map_lookBy (nm := gname) (nm' := F.name) (fun g : G => g.1) (fun _ => rfl) nm gs
/-- what a look-up gives: the file's value, or that of none -/
def oldV (gs : List G) (nm : List UInt8) : Value := match lookBy gname nm gs with | some g => g.2 | none => .agg #[.slice none 0 0, .int .i64 0]
section
variable {w : World} {ops : Array Oper} {rest : List Oper} {o : Oper} {a : Act} {Q : Exit → Act → World → Prop}
theorem heldR_inv {gs : List G} {nm : List UInt8} {v : Value} {ps : List MemPlace} (h : heldR v = some ((entsD gs).atKey (.string nm) (.held (.agg #[.slice none 0 0, .int .i64 0])), ps)) : v = oldV gs nm := by
  rw [atKey_ents] at h
  unfold heldR at h
  unfold oldV
  cases hl : lookBy gname nm gs <;> rw [hl] at h <;> simp at h <;> exact h.1
theorem wpList_look_ok (hg : o.guard = none) (m x : Operand) (hop : o.op = Op.lookup 88 m x true) (mb n : Nat) (gs : List G) (hm : a.eval m = .map (some mb)) (hown : w.ownsMap Try.prog 9 heldR mb n (entsD gs))
    (nm : List UInt8) (hx : a.eval x = .string ⟨nm.toArray⟩) (hl : nm.length ≤ maxLen) (s l : Value) (hs : oldV gs nm = .agg #[s, l]) (b : Bool) (hb : (lookBy gname nm gs).isSome = b)
    (hK : wpList Try.prog ops Q rest (a.put o.dst (.tuple #[.agg #[s, l], .bool b])) w) : wpList Try.prog ops Q (o :: rest) a w :=
  wpList_lookup_own_ok w hg m x 88 hop 9 103 law Try.underlying88 heldR (zeroFile _) (.held (.agg #[.slice none 0 0, .int .i64 0])) [] rfl mb n (entsD gs) hm hown _ (.string nm) hx (hkey hl) (fun v ps hv => by
    rw [heldR_inv hv, hs, has_ents, hb]; exact hK)
theorem run_look {mb n : Nat} {gs : List G} (hown : w.ownsMap Try.prog 9 heldR mb n (entsD gs)) {nm : List UInt8} (hl : nm.length ≤ maxLen) : (Instr.lookup 88 (.map (some mb)) (.string ⟨nm.toArray⟩) false).run Try.prog w = .ok (oldV gs nm) w := by
  obtain ⟨v, ps, hrun, hv⟩ := hown.lookup law Try.underlying88 (zeroFile _) (zd := .held (.agg #[.slice none 0 0, .int .i64 0])) (zp := []) rfl (hkey hl)
  rw [hrun, heldR_inv hv]
theorem wpList_look (hg : o.guard = none) (m x : Operand) (hop : o.op = Op.lookup 88 m x false) (mb n : Nat) (gs : List G) (hm : a.eval m = .map (some mb)) (hown : w.ownsMap Try.prog 9 heldR mb n (entsD gs))
    (nm : List UInt8) (hx : a.eval x = .string ⟨nm.toArray⟩) (hl : nm.length ≤ maxLen) (s l : Value) (hs : oldV gs nm = .agg #[s, l])
    (hK : wpList Try.prog ops Q rest (a.put o.dst (.agg #[s, l])) w) : wpList Try.prog ops Q (o :: rest) a w := by
  refine wpList_plain hg fun K' hK' => ?_
  unfold Oper.wp
  simp [execOp, hop, hm, hx, run_look hown hl, Result.andThen]
  rw [hs]
  exact hK' _ _ hK
end
/-- a step of a law that speaks of cells: what the walk needs of a disk -/
theorem IsDisk.cells {w : World} {A : Nat → Prop} {p mb : Nat} {d : Dk} (h : IsDisk w A p mb d) : ∃ (left : Int) (gs : List G),
    (w.cell? ⟨p, 0, none⟩ = some (.map (some mb)) ∧ w.cell? ⟨p, 1, none⟩ = some (.int .i64 (d.room : Int)) ∧ w.cell? ⟨p, 2, none⟩ = some (.bool d.fuse.isSome) ∧ w.cell? ⟨p, 3, none⟩ = some (.int .i64 left) ∧ w.cell? ⟨p, 4, none⟩ = some (.bool d.dead)) ∧
    (∀ j, w.frozen? ⟨p, j, none⟩ = false) ∧ (-9223372036854775808 ≤ left ∧ left ≤ 9223372036854775807 ∧ ∀ k : Nat, d.fuse = some k → left = k) ∧ d.files = gs.map (·.1) ∧ w.ownsMap Try.prog 9 heldR mb gs.length (entsD gs) ∧ (∀ g ∈ gs, FileV w A g) := by
  obtain ⟨left, gs, hp, h2, h3, h4, h5, h6, h7⟩ := h
  exact ⟨left, gs, ⟨by rw [Lib.cell_of_heap hp]; rfl, by rw [Lib.cell_of_heap hp]; rfl, by rw [Lib.cell_of_heap hp]; rfl, by rw [Lib.cell_of_heap hp]; rfl, by rw [Lib.cell_of_heap hp]; rfl⟩, Lib.frozen_of_heap hp, h2, h3, h4, h5⟩
/-- what a look-up gives, in the model's words -/
theorem old_is {w : World} {A : Nat → Prop} {d : Dk} {gs : List G} (hgs : d.files = gs.map (·.1)) (hf : ∀ g ∈ gs, FileV w A g) (nm : List UInt8) : ∃ so sc, oldV gs nm = .agg #[.slice so (d.old nm).b.length sc, .int .i64 ((d.old nm).lasts : Int)] ∧ BytesV w A (.slice so (d.old nm).b.length sc) (d.old nm).b := by
  unfold oldV Dk.old
  rw [look_g hgs]
  cases hl : lookBy gname nm gs with
  | none => exact ⟨_, _, rfl, BytesV.nil w A⟩
  | some g =>
    obtain ⟨s, e, hb⟩ := hf g (lookBy_mem hl).1
    obtain ⟨ao, cap, rfl, _⟩ := id hb
    exact ⟨ao, cap, e, hb⟩
theorem there_g {d : Dk} {gs : List G} (hgs : d.files = gs.map (·.1)) (nm : List UInt8) : (lookBy gname nm gs).isSome = d.there nm := by
  unfold Dk.there; rw [look_g hgs, Option.isSome_map]
set_option maxHeartbeats 800000 in
set_option maxRecDepth 100000 in
theorem dthere (A : Nat → Prop) (p mb : Nat) (d : Dk) (nm : List UInt8) (w : World) (h : IsDisk w A p mb d) (hl : nm.length ≤ maxLen) :
    Calls Try.prog 60 #[.pointer (some ⟨p, 0, none⟩), .string ⟨nm.toArray⟩] w fun e w' => e = .returned (.bool (d.there nm)) ∧ Kp [] w.heap.size w w' := by
  obtain ⟨left, gs, ⟨c0, _⟩, _, _, hgs, hown, hf⟩ := h.cells
  obtain ⟨so, sc, hs, _⟩ := old_is hgs hf nm
  have ht := there_g hgs nm
  clear hgs hf h
  go_enter Try.func60, Try.ntmps60
  go_wp2_with (at_lookup; refine wpList_look_ok rfl _ _ rfl mb _ gs rfl hown nm rfl hl _ _ hs _ ht ?_)
  go_ret
  exact ⟨rfl, (Kp.refl _ _ _).alloc (Nat.le_refl _) _⟩

theorem dthere_nil (nm : List UInt8) (w : World) :
    Calls Try.prog 60 #[.pointer none, .string ⟨nm.toArray⟩] w fun e w' => e = .returned (.bool false) ∧ w = w' := by
  go_enter Try.func60, Try.ntmps60
  go_wp2
  go_ret
  exact ⟨rfl, rfl⟩
end Go.Proofs.Ytdabflkejhoghaa.Hand
