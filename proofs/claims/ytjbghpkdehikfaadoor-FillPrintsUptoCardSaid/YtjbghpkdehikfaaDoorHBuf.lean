/- fill: what the builder's writing methods do, with a frame that keeps the rows beside it. -/
import Derived.Test.YtjbghpkdehikfaaDoorProg
import Derived.Below
import Derived.Deep.Draws
import Derived.Deep.AppendLies
import Derived.Maps.AppendAt
import Derived.OwnWalk
import Derived.Laws.BytesArg
import Derived.Laws.MakeOwn
import Derived.Laws.OwnMore
import Derived.Deep.OwnRows
import Derived.Tactics
import Derived.Lib.ConvBytes
import Derived.Laws.Slices
import Derived.WalkKit
import Derived.KernelRfl
import Derived.RowKit3
import Derived.Deep.LoopGhost
import Derived.Deep.QuietTactic
import Derived.BigQuiet
import Derived.WideLaws
import Derived.Deep.DeepCutAuto
import Derived.Deep.CutBlock
import Derived.Deep.RegionHeld3
import Derived.Laws.Rows
import Derived.Lib.AppendStr
import Derived.ArgAppend
import Derived.Laws.IdiomCopy
import Derived.OrdersHeld
import Derived.Laws.BitsLemmas
import Derived.RowKit
import Derived.Test.YtjbghpkdehikfaaDoorWWords
import Derived.Test.YtjbghpkdehikfaaDoorWLast
import Derived.Test.YtjbghpkdehikfaaDoorWTab
import Derived.Test.YtjbghpkdehikfaaDoorWFour
import Derived.Test.YtjbghpkdehikfaaDoorWQPut
import Derived.Test.YtjbghpkdehikfaaDoorWApart
import Derived.Test.YtjbghpkdehikfaaDoorWArr
import Derived.Test.YtjbghpkdehikfaaDoorWZeros
import Derived.Test.YtjbghpkdehikfaaDoorWFoot
import Derived.Test.YtjbghpkdehikfaaDoorWKept
import Derived.Test.YtjbghpkdehikfaaDoorWShare
import Derived.Test.YtjbghpkdehikfaaDoorWN
import Derived.Test.YtjbghpkdehikfaaDoorWFootNe
import Derived.Test.YtjbghpkdehikfaaDoorWAt
import Derived.Test.YtjbghpkdehikfaaDoorWEqStruct
import Derived.Test.YtjbghpkdehikfaaDoorWRepsOne
import Derived.Test.YtjbghpkdehikfaaDoorWInv
import Derived.Test.YtjbghpkdehikfaaDoorWInvWords
import Derived.Test.YtjbghpkdehikfaaDoorWGuard
import Derived.Test.YtjbghpkdehikfaaDoorWNEv
import Derived.Test.YtjbghpkdehikfaaDoorWMore
import Derived.Outline
import Derived.Laws.AppendOwn
import Derived.Test.YtjbghpkdehikfaaDoorHBld
namespace Go.Proofs.YtjbghpkdehikfaaDoor.Hand
open Go.RowKit
set_option linter.unusedVariables false

/-- Block b alone turned. -/
structure Only (b : Nat) (w w' : World) : Prop where
  os : w'.os = w.os
  tape : w'.tape = w.tape
  output : w'.output = w.output
  size : w'.heap.size = w.heap.size
  block : ∀ k, k ≠ b → w'.heap[k]? = w.heap[k]?
theorem Only.refl (b : Nat) (w : World) : Only b w w := ⟨rfl, rfl, rfl, rfl, fun _ _ => rfl⟩
theorem Only.trans {b : Nat} {x y z : World} (h : Only b x y) (k : Only b y z) : Only b x z :=
  ⟨k.os.trans h.os, k.tape.trans h.tape, k.output.trans h.output, k.size.trans h.size, fun i hb => (k.block i hb).trans (h.block i hb)⟩
theorem Only.setCell (b : Nat) (w : World) (j : Nat) (u : Value) : Only b w (w.setCell ⟨b, j, none⟩ u) :=
  ⟨rfl, rfl, rfl, by simp [World.setCell], fun k hb => Below.heap_setCell _ _ _ _ hb⟩
theorem Only.below {b B : Nat} {w w' : World} (h : Only b w w') (hB : B ≤ b) : Below B w w' := ⟨h.os, h.tape, h.output, by rw [h.size]; exact Nat.le_refl _, fun k hk => h.block k (by omega)⟩

theorem Only.kept {b : Nat} {w w' : World} (lo : Nat) (h : Only b w w') : Kept lo b w w' := ⟨h.os, h.tape, h.output, Nat.le_of_eq h.size.symm, fun k _ hb => h.block k hb⟩
theorem Only.cell {b : Nat} {w w' : World} (h : Only b w w') {p : Addr} (hp : p.block ≠ b) : w'.cell? p = w.cell? p := World.cell?_of_block (w := w) (h.block p.block hp)
/-- The builder's own row, kept where block b alone turns. -/
theorem row_set {lo b j : Nat} {v u : Value} {n : Nat} {xs : List Value} {w : World} (h1 : b < lo) (hown : w.ownsRow lo 5 1 v n xs) : (w.setCell ⟨b, j, none⟩ u).ownsRow lo 5 1 v n xs := by
  refine hown.kept (row := some b) ⟨rfl, rfl, rfl, by simp [World.setCell], fun k _ hk => Below.heap_setCell _ _ _ _ (fun e => hk (by simp [e]))⟩ (Or.inr ?_)
  rcases hown.2 with ⟨rfl, _⟩ | ⟨g, cap, cur, rfl, hg, rest⟩
  · simp [Value.ownBlock]
  · simp [Value.ownBlock]; omega

/-- A builder that has been used. -/
def Bu (lo b : Nat) (bs : List Value) (w : World) : Prop :=
  b < lo ∧ lo ≤ w.heap.size ∧ ∃ v, w.heap[b]? = some (.cells #[.pointer (some ⟨b, 0, none⟩), v] 65 (0, 0)) ∧ w.ownsRow lo 5 1 v bs.length bs
theorem Bu.bl {lo b : Nat} {bs : List Value} {w : World} (h : Bu lo b bs w) : Bl lo b bs w := by
  obtain ⟨h1, h2, v, hb, hown⟩ := h
  exact ⟨h1, h2, _, v, hb, .inr rfl, hown⟩

theorem copyCheck (lo b : Nat) (bs : List Value) (w : World) (h : Bl lo b bs w) :
    Calls Tryd.prog 46 #[.pointer (some ⟨b, 0, none⟩)] w fun e w' => e = .returned (.tuple #[]) ∧ (Bu lo b bs w' ∧ Only b w w') := by
  obtain ⟨h1, h2, p, v, hb, hp, hown⟩ := h
  rcases hp with rfl | rfl
  · refine (Any.Builder_copyCheck_fresh Tryd.hlays240 Tryd.hX72 b w (by rw [Lib.cell_of_heap hb]; rfl) (by simp [World.shape?, hb]; rfl) (Lib.frozen_of_heap hb 0)).mono ?_
    rintro e w' ⟨rfl, rfl⟩
    refine ⟨rfl, ⟨h1, by simpa [World.setCell] using h2, v, ?_, row_set h1 hown⟩, Only.setCell _ _ _ _⟩
    simp [World.setCell, Array.getElem?_modify, hb]
  · refine (Any.Builder_copyCheck_used Tryd.hlays240 Tryd.hX72 b w (by rw [Lib.cell_of_heap hb]; rfl)).mono ?_
    rintro e w' ⟨rfl, rfl⟩
    exact ⟨rfl, ⟨h1, h2, v, hb, hown⟩, Only.refl _ _⟩

set_option maxHeartbeats 2000000 in
set_option maxRecDepth 100000 in
theorem WriteByte (lo b : Nat) (bs : List Value) (c : Int) (w : World) (h : Bl lo b bs w) (hlen : bs.length + 1 ≤ 140737488355328) :
    Calls Tryd.prog 32 #[.pointer (some ⟨b, 0, none⟩), .int .u8 c] w fun e w' => e = .returned .nilIface ∧ (Bu lo b (bs ++ [.int .u8 c]) w' ∧ Kept lo b w w') := by
  obtain ⟨i0, hi, hz0, hz1, hz2⟩ := info_parts Tryd.hExtra.infoByte
  go_enter Tryd.func32, Tryd.ntmps32
  go_wp2_with (go_at_call 46; with_reducible refine (copyCheck lo b bs _ h).mono ?_)
  rintro e w1 ⟨rfl, h1, hk1⟩
  obtain ⟨hB, hlo, v, hbk, hown⟩ := h1
  have c0 : w1.cell? ⟨b, 0, none⟩ = some (.pointer (some ⟨b, 0, none⟩)) := by rw [Lib.cell_of_heap hbk]; rfl
  have c1 : w1.cell? ⟨b, 1, none⟩ = some v := by rw [Lib.cell_of_heap hbk]; rfl
  have hne : v.ownBlock ≠ some b := by
    rcases hown.2 with ⟨rfl, _⟩ | ⟨g, cap, cur, rfl, hg, rest⟩
    · simp [Value.ownBlock]
    · simp [Value.ownBlock]; omega
  have hvb : ∀ k, v.ownBlock = some k → lo ≤ k := by
    rcases hown.2 with ⟨rfl, _⟩ | ⟨g, cap, cur, rfl, hg, rest⟩
    · simp [Value.ownBlock]
    · simp [Value.ownBlock]; omega
  go_wp2_with (at_builtin; refine wpList_append_own _ rfl _ _ 22 rfl lo 5 i0 (.int .u8 0) 1 1 Tryd.underlying22 hi hz0 hz1 hz2 rfl (by decide) _ _ _ rfl (hown.alloc _) ⟨w1.heap.size, 0, none⟩ 1 1 [.int .u8 c] rfl rfl ?c1 ?c2 ?c3 ?c4 ?c5 ?_)
  case c1 =>
    intro j u hj
    match j, hj with
    | 0, hj => simp at hj; subst hj; simp [Addr.add]
  case c2 => intro u hu; simp at hu; subst hu; rfl
  case c3 => unfold maxLen; omega
  case c4 => omega
  case c5 => simp; omega
  intro v' w2 hown' hgrow _
  have hlt : b < w1.heap.size := by omega
  have hb2 : w2.heap[b]? = some (.cells #[.pointer (some ⟨b, 0, none⟩), v] 65 (0, 0)) := by
    rw [hgrow.block b (by simp; omega) (fun e => hne e.symm), Lib.alloc_old w1 _ b hlt]
    exact hbk
  have hkk : Kept lo b w1 w2 := ⟨hgrow.os, hgrow.tape, hgrow.output, Nat.le_trans (by simp) hgrow.size, fun k hk _ => by
    rw [hgrow.block k (by simp; omega) (fun e => by have := hvb k e.symm; omega), Lib.alloc_old w1 _ k (by omega)]⟩
  have d0 : w2.cell? ⟨b, 0, none⟩ = some (.pointer (some ⟨b, 0, none⟩)) := by rw [Lib.cell_of_heap hb2]; rfl
  have d1 : w2.cell? ⟨b, 1, none⟩ = some v := by rw [Lib.cell_of_heap hb2]; rfl
  have f1 : w2.frozen? ⟨b, 1, none⟩ = false := Lib.frozen_of_heap hb2 1
  obtain ⟨ao, n', cap, rfl⟩ : ∃ ao n' cap, v' = .slice ao n' cap := by
    rcases hown'.2 with ⟨hv, _⟩ | ⟨g, cap, cur, hv, _⟩
    · exact ⟨_, _, _, hv⟩
    · exact ⟨_, _, _, hv⟩
  go_wp2
  go_ret
  refine ⟨rfl, ⟨hB, by have := hkk.size; simp [World.setCell]; omega, _, ?_, row_set hB (by simpa using hown')⟩, (hk1.kept lo).trans (hkk.setCell _ _)⟩
  simp [World.setCell, Array.getElem?_modify, hb2]

set_option maxHeartbeats 2000000 in
set_option maxRecDepth 100000 in
theorem Write (lo b : Nat) (bs : List Value) (ad : Addr) (m c : Nat) (news : List Value) (w : World) (h : Bl lo b bs w)
    (hl : news.length = m) (hnews : ∀ j u, news[j]? = some u → w.cell? (ad.add j) = some u) (hadb : ad.block ≠ b) (h1 : ∀ u ∈ news, u.oneCell' = true)
    (hlen : bs.length + m ≤ 140737488355328) :
    Calls Tryd.prog 38 #[.pointer (some ⟨b, 0, none⟩), .slice (some ad) m c] w fun e w' => e = .returned (.tuple #[.int .i64 m, .nilIface]) ∧ (Bu lo b (bs ++ news) w' ∧ Kept lo b w w') := by
  obtain ⟨i0, hi, hz0, hz1, hz2⟩ := info_parts Tryd.hExtra.infoByte
  go_enter Tryd.func38, Tryd.ntmps38
  go_wp2_with (go_at_call 46; with_reducible refine (copyCheck lo b bs _ h).mono ?_)
  rintro e w1 ⟨rfl, h1', hk1⟩
  obtain ⟨hB, hlo, v, hbk, hown⟩ := h1'
  have c0 : w1.cell? ⟨b, 0, none⟩ = some (.pointer (some ⟨b, 0, none⟩)) := by rw [Lib.cell_of_heap hbk]; rfl
  have c1 : w1.cell? ⟨b, 1, none⟩ = some v := by rw [Lib.cell_of_heap hbk]; rfl
  have hne : v.ownBlock ≠ some b := by
    rcases hown.2 with ⟨rfl, _⟩ | ⟨g, cap, cur, rfl, hg, rest⟩
    · simp [Value.ownBlock]
    · simp [Value.ownBlock]; omega
  have hvb : ∀ k, v.ownBlock = some k → lo ≤ k := by
    rcases hown.2 with ⟨rfl, _⟩ | ⟨g, cap, cur, rfl, hg, rest⟩
    · simp [Value.ownBlock]
    · simp [Value.ownBlock]; omega
  have hnews1 : ∀ j u, news[j]? = some u → w1.cell? (ad.add j) = some u := fun j u hj => by rw [hk1.cell (p := ad.add j) (by unfold Addr.add; split <;> exact hadb)]; exact hnews j u hj
  go_wp2_with (at_builtin; refine wpList_append_own _ rfl _ _ 22 rfl lo 5 i0 (.int .u8 0) 1 1 Tryd.underlying22 hi hz0 hz1 hz2 rfl (by decide) _ _ _ rfl hown ad m c news rfl (by omega) hnews1 h1 ?c3 ?c4 ?c5 ?_)
  case c3 => unfold maxLen; omega
  case c4 => omega
  case c5 => omega
  intro v' w2 hown' hgrow _
  have hlt : b < w1.heap.size := by omega
  have hb2 : w2.heap[b]? = some (.cells #[.pointer (some ⟨b, 0, none⟩), v] 65 (0, 0)) := by
    rw [hgrow.block b hlt (fun e => hne e.symm)]
    exact hbk
  have hkk : Kept lo b w1 w2 := ⟨hgrow.os, hgrow.tape, hgrow.output, hgrow.size, fun k hk _ => by
    rw [hgrow.block k (by omega) (fun e => by have := hvb k e.symm; omega)]⟩
  have d0 : w2.cell? ⟨b, 0, none⟩ = some (.pointer (some ⟨b, 0, none⟩)) := by rw [Lib.cell_of_heap hb2]; rfl
  have d1 : w2.cell? ⟨b, 1, none⟩ = some v := by rw [Lib.cell_of_heap hb2]; rfl
  have f1 : w2.frozen? ⟨b, 1, none⟩ = false := Lib.frozen_of_heap hb2 1
  obtain ⟨ao, n', cap, rfl⟩ : ∃ ao n' cap, v' = .slice ao n' cap := by
    rcases hown'.2 with ⟨hv, _⟩ | ⟨g, cap, cur, hv, _⟩
    · exact ⟨_, _, _, hv⟩
    · exact ⟨_, _, _, hv⟩
  go_wp2
  go_ret2
  refine ⟨rfl, ⟨hB, by have := hkk.size; simp [World.setCell]; omega, _, ?_, row_set hB (by simpa [hl] using hown')⟩, (hk1.kept lo).trans (hkk.setCell _ _)⟩
  simp [World.setCell, Array.getElem?_modify, hb2]
end Go.Proofs.YtjbghpkdehikfaaDoor.Hand
