/- Names. -/
import Derived.Below
import Derived.Deep.Draws
import Derived.Deep.AppendLies
import Derived.Maps.AppendAt
import Derived.OwnWalk
import Derived.Laws.BytesArg
import Derived.Laws.MakeOwn
import Derived.Laws.OwnMore
import Derived.Deep.OwnRows
import Derived.Tactics
import Derived.Lib.ConvBytes
import Derived.Laws.Slices
import Derived.WalkKit
import Derived.KernelRfl
import Derived.RowKit3
import Derived.Deep.LoopGhost
import Derived.Deep.QuietTactic
import Derived.BigQuiet
import Derived.WideLaws
import Derived.Deep.DeepCutAuto
import Derived.Deep.CutBlock
import Derived.Deep.RegionHeld3
import Derived.Laws.Rows
import Derived.Lib.AppendStr
import Derived.ArgAppend
import Derived.Laws.IdiomCopy
import Derived.OrdersHeld
import Derived.Laws.BitsLemmas
import Derived.RowKit
import Derived.Outline
import Derived.Maps.Own
import Derived.Maps.OwnOps
import Derived.Maps.OwnSet
import Derived.Maps.Views
import Derived.Maps.RangeWalk
import Derived.Maps.Ext
import Derived.RangeFuncOwn
import Derived.OneCell
import Derived.Deep.DeepMust
import Derived.Lib.Hide
import Derived.Test.YtdabflkejhoghaaHDf
namespace Go.Proofs.Ytdabflkejhoghaa.Hand
open Go Go.RowKit Go.Maps Go.WideMaps Go.Sort Go.Shelf
set_option linter.unusedVariables false
/-- slices.Sort's two contracts at this dump, at the fence that asks nothing. (As the kit's lay-iter prints it.) -/
theorem sortsHere (m : Nat) : AnyZ.SortsIn Try.prog Try.sorted63_ren Fence.wide m :=
  ⟨fun blk off cap ss W hH hblk hsz => callsIn_wide.2 (AnyM.slices_Sort_string Try.sort89 blk off cap ss W hH hblk hsz),
   fun p cap W => callsIn_wide.2 (AnyM.slices_Sort_string_none Try.sort89 p cap W)⟩
theorem keysHere (mb : Option Nat) (W : World) : CallsIn Fence.wide 5 Try.prog 64 #[.map mb] W fun e w' => e = .returned (.func (.func 90) #[] #[.pointer (some ⟨W.heap.size, 0, none⟩)]) ∧ w' = W.alloc (.cells #[.map mb] 88) :=
  AnyZ.keys_in Try.keys64 Fence.wide 5 trivial rfl mb W
set_option maxHeartbeats 1000000 in
theorem sortedHere {H : Type} (b nn : Nat) (D0 : DataW H) (R : Value → Option (DataW H × List MemPlace)) (w : World) (hown : w.ownsMap Try.prog 9 R b nn D0) (hmax : Maps.size D0 ≤ maxLen) (hbytes : Maps.size D0 * 16 ≤ 140737488355328) :
    CallsIn Fence.wide 5 Try.prog 63 #[.func (.func 90) #[] #[.pointer (some ⟨w.heap.size, 0, none⟩)]] (w.alloc (.cells #[.map (some b)] 88)) fun e w' => ∃ (v : Value) (ss : List (List UInt8)), e = .returned v ∧ ss.Perm (strKeys D0) ∧
      w'.ownsRow (w.alloc (.cells #[.map (some b)] 88)).heap.size 9 1 v ss.length ((ss.mergeSort (fun x y => decide (x ≤ y))).map encStr) ∧ (v = .slice none 0 0 ↔ ss = []) ∧ Below (w.alloc (.cells #[.map (some b)] 88)).heap.size (w.alloc (.cells #[.map (some b)] 88)) w' := by
  have hbl := hown.lt
  have hseq : SeqGives Fence.wide 2 Try.prog 90 #[.pointer (some ⟨w.heap.size, 0, none⟩)] encStr (fun ss => ss.Perm (strKeys D0)) (Maps.size D0) (w.alloc (.cells #[.map (some b)] 88)) :=
    AnyZ.keys_gives (ρ := Try.keys64_ren) { Try.keys64 with } Fence.wide _ trivial rfl (by omega) w.heap.size b nn D0 _ (by simp) (by simp) (by
      obtain ⟨es, clock, hb, Ft, hs, hD⟩ := hown
      exact ⟨es, clock, (Below.heap_alloc _ _ b hbl).trans hb, Ft, hs, hD⟩)
  exact AnyZ.sorted_in Try.sorted63 Fence.wide 5 trivial trivial trivial trivial rfl (by omega) (sortsHere _) (enters_of Try.func89 (by kernel_rfl) rfl) 90 #[.pointer (some ⟨w.heap.size, 0, none⟩)] trivial (enters_of Try.func90 (by kernel_rfl) rfl) _ _ hmax hbytes _ hseq
theorem bb_lt : ∀ {a b : List UInt8}, bytesBefore a b = true → a < b
  | [], [], h => by cases h
  | [], y :: s, _ => List.nil_lt_cons y s
  | x :: r, [], h => by cases h
  | x :: r, y :: s, h => by
    rw [List.cons_lt_cons_iff]
    simp only [bytesBefore, Bool.or_eq_true, Bool.and_eq_true, decide_eq_true_eq, beq_iff_eq] at h
    rcases h with h | ⟨rfl, h⟩
    · exact .inl h
    · exact .inr ⟨rfl, bb_lt h⟩
/-- sorted texts, in whatever order they came -/
theorem sorted_names {ss l : List (List UInt8)} (hp : ss.Perm l) (hl : l.Pairwise fun a b => bytesBefore a b = true) : ss.mergeSort (fun x y => decide (x ≤ y)) = l := by
  refine List.Perm.eq_of_pairwise (le := fun a b => decide (a ≤ b) = true) (fun a b _ _ h1 h2 => ?_) (List.pairwise_mergeSort (fun a b c h1 h2 => ?_) (fun a b => ?_) ss) (hl.imp fun h => ?_) ((List.mergeSort_perm ss _).trans hp)
  · exact List.le_antisymm (of_decide_eq_true h1) (of_decide_eq_true h2)
  · exact decide_eq_true (List.le_trans (of_decide_eq_true h1) (of_decide_eq_true h2))
  · rcases List.le_total a b with h | h <;> simp [h]
  · exact decide_eq_true (List.le_of_lt (bb_lt h))
theorem strKeys_ents (gs : List G) : strKeys (entsD gs) = gs.map fun g => g.1.name := by
  show (gs.map ent).map (fun p => strOf p.1) = _
  rw [List.map_map]
  rfl
def names (l : List F) : List (List UInt8) := l.map F.name
/-- what Names answers -/
def NamesP (w : World) (d : Dk) (e : Ending) (w' : World) : Prop := ∃ v, e = .returned v ∧ w'.ownsRow w.heap.size 9 1 v d.files.length ((names d.files).map encStr) ∧ Kp [] w.heap.size w w'
set_option maxHeartbeats 1000000 in
set_option maxRecDepth 100000 in
theorem dNames (A : Nat → Prop) (p mb : Nat) (d : Dk) (w : World) (h : IsDisk w A p mb d) :
    Calls Try.prog 29 #[.pointer (some ⟨p, 0, none⟩)] w (NamesP w d) := by
  obtain ⟨left, gs, ⟨c0, _⟩, _, _, hgs, hown, hf⟩ := h.cells
  have hris := rising_g hgs h.ok
  have hfew : gs.length ≤ 8 := by have := h.ok.few; rw [hgs] at this; simpa using this
  have hsz := size_ents gs
  have hnm : names d.files = gs.map fun g => g.1.name := by unfold names; rw [hgs, List.map_map]; rfl
  have fin : ∀ ss : List (List UInt8), ss.Perm (strKeys (entsD gs)) → ss.length = d.files.length ∧ ss.mergeSort (fun x y => decide (x ≤ y)) = names d.files := fun ss hp => by
    rw [strKeys_ents, ← hnm] at hp
    refine ⟨by rw [hp.length_eq]; simp [names], sorted_names hp ?_⟩
    rw [hnm, List.pairwise_map]; exact hris
  have H1 : Maps.size (entsD gs) ≤ maxLen := by rw [hsz]; unfold maxLen; omega
  have H2 : Maps.size (entsD gs) * 16 ≤ 140737488355328 := by rw [hsz]; omega
  have FIN := Lib.hid fin
  clear hgs hf h hris hfew hsz hnm fin
  unfold NamesP
  refine (callsIn_wide (n := 6)).1 ?_
  have hfK : Fence.wide.fn 64 := trivial
  have hfS : Fence.wide.fn 63 := trivial
  refine callsIn_of_wp Try.func29 rfl trivial ?_ rfl
  simp only [Try.ntmps29, List.size_toArray, List.length_cons, List.length_nil, Nat.reduceAdd, Nat.reduceSub, Array.replicate_succ, Array.replicate_zero, List.push_toArray, List.append_toArray, List.nil_append, List.cons_append]
  gi_wp2_with (first
    | (gi_at_call 64; refine (keysHere _ _).mono ?_; rintro e w' ⟨rfl, rfl⟩)
    | (gi_at_call 63; refine (sortedHere mb _ (entsD gs) heldR w hown H1 H2).mono ?_; rintro e w' ⟨v, ss, rfl, hS, hrow, _, hb⟩))
  go_ret
  obtain ⟨e1, e2⟩ := FIN.out ss hS
  rw [e1, e2] at hrow
  exact ⟨v, rfl, hrow.base (by simp), (Kp.of_below ((Below.refl _ w).alloc (Nat.le_refl _) _) (Nat.le_refl _)).trans (Kp.of_below hb (by simp))⟩
theorem dNames_nil (w : World) : Calls Try.prog 29 #[.pointer none] w fun e w' => e = .returned (.slice none 0 0) ∧ w = w' := by
  go_enter Try.func29, Try.ntmps29
  go_wp2
  go_ret
  exact ⟨rfl, rfl⟩
theorem dUsed_nil (w : World) : Calls Try.prog 31 #[.pointer none] w fun e w' => e = .returned (.int .i64 0) ∧ w = w' := by
  go_enter Try.func31, Try.ntmps31
  go_wp2
  go_ret
  exact ⟨rfl, rfl⟩
end Go.Proofs.Ytdabflkejhoghaa.Hand
