/- Concat. -/
import Derived.Below
import Derived.Deep.Draws
import Derived.Deep.AppendLies
import Derived.Maps.AppendAt
import Derived.OwnWalk
import Derived.Laws.BytesArg
import Derived.Laws.MakeOwn
import Derived.Laws.OwnMore
import Derived.Deep.OwnRows
import Derived.Tactics
import Derived.Lib.ConvBytes
import Derived.Laws.Slices
import Derived.WalkKit
import Derived.KernelRfl
import Derived.RowKit3
import Derived.Deep.LoopGhost
import Derived.Deep.QuietTactic
import Derived.BigQuiet
import Derived.WideLaws
import Derived.Deep.DeepCutAuto
import Derived.Deep.CutBlock
import Derived.Deep.RegionHeld3
import Derived.Laws.Rows
import Derived.Lib.AppendStr
import Derived.ArgAppend
import Derived.Laws.IdiomCopy
import Derived.OrdersHeld
import Derived.Laws.BitsLemmas
import Derived.RowKit
import Derived.Outline
import Derived.Maps.Own
import Derived.Maps.OwnOps
import Derived.Maps.OwnSet
import Derived.Maps.Views
import Derived.Maps.RangeWalk
import Derived.Maps.Ext
import Derived.RangeFuncOwn
import Derived.OneCell
import Derived.Deep.DeepMust
import Derived.Lib.Hide
import Derived.StillTailTactics
import Derived.Laws.AppendOwnNone
import Derived.Test.YtdabflkejhoghaaHDj
namespace Go.Proofs.Ytdabflkejhoghaa.Hand
open Go Go.RowKit Go.Maps Go.WideMaps
set_option linter.unusedVariables false
theorem infoByte : (Try.prog.info? 5).map (fun i => (i.zero, i.size, i.bytes)) = some (some (.int .u8 0), 1, 1) := by kernel_rfl
theorem bcells_one {b : List UInt8} : ∀ u ∈ bcells b, u.oneCell' = true := by
  intro u hu
  obtain ⟨x, _, rfl⟩ := List.mem_map.1 hu
  rfl
theorem bcells_app (a b : List UInt8) : bcells (a ++ b) = bcells a ++ bcells b := by simp [bcells]
theorem BytesV.news {w : World} {A : Nat → Prop} {a : Addr} {n c : Nat} {b : List UInt8} (h : BytesV w A (.slice (some a) n c) b) : ∀ j u, (bcells b)[j]? = some u → w.cell? (a.add j) = some u := by
  obtain ⟨ao, cap, e, _, _, h3⟩ := h
  cases e
  rcases h3 with ⟨h, _⟩ | ⟨a', ha, _, hc⟩
  · cases h
  · cases ha
    intro j u hu
    have hj : j < b.length := by
      have := (List.getElem?_eq_some_iff.1 hu).1
      simpa [bcells] using this
    rw [hc j hj]
    unfold bcells at hu
    rw [List.getElem?_map, List.getElem?_eq_getElem hj] at hu
    simpa using hu
/-- append(x, b...), the bytes b from wherever -/
theorem wpList_appB {w : World} {ops : Array Oper} {rest : List Oper} {o : Oper} {a : Act} {Q : Exit → Act → World → Prop} (hg : o.guard = none) (s x : Operand)
    (ho : o.op = .call { callee := .builtin .append, args := #[s, x], argTypes := #[22, 22] }) (base : Nat) (v : Value) (n : Nat) (xs : List Value) (hs : a.eval s = v) (hown : w.ownsRow base 5 1 v n xs)
    {A : Nat → Prop} {vb : Value} {b : List UInt8} (hx : a.eval x = vb) (hb : BytesV w A vb b) (hlen : n + b.length ≤ 140737488355328) (hbase : base ≤ w.heap.size)
    (hK : ∀ v' w', w'.ownsRow base 5 1 v' (n + b.length) (xs ++ bcells b) → w.grownBy w' v.ownBlock → wpList Try.prog ops Q rest (a.put o.dst v') w') : wpList Try.prog ops Q (o :: rest) a w := by
  obtain ⟨i0, hi, hz0, hz1, hz2⟩ := info_parts infoByte
  have hb' := hb
  obtain ⟨ao, cap, rfl, h1, h2, h3⟩ := hb'
  rcases h3 with ⟨rfl, rfl, rfl⟩ | ⟨ad, rfl, _, _⟩
  · exact wpList_append_own_none hg s x 22 ho base 5 i0 1 Try.underlying22 hi v n xs hs hown hx (hK v w (by simpa [bcells] using hown) (World.grownBy.refl w _))
  · exact wpList_append_own w hg s x 22 ho base 5 i0 (.int .u8 0) 1 1 Try.underlying22 hi hz0 hz1 hz2 rfl (by decide) v n xs hs hown ad b.length cap (bcells b) hx (by simp [bcells]) hb.news bcells_one (by unfold maxLen; omega) (by omega) hbase (fun v' w' h1 h2 _ => hK v' w' h1 h2)
set_option maxHeartbeats 800000 in
set_option maxRecDepth 100000 in
theorem dGrow (n : Nat) (w : World) (hn : n ≤ 140737488355328) : Calls Try.prog 87 #[.slice none 0 0, .int .i64 n] w fun e w' => ∃ v, e = .returned v ∧ w'.ownsRow w.heap.size 5 1 v 0 [] ∧ Below w.heap.size w w' := by
  obtain ⟨i0, hi, hz0, hz1, hz2⟩ := info_parts infoByte
  by_cases h0 : n = 0
  · subst h0
    refine (Any8.slices_Grow_room Try.grow87 none 0 0 0 w (by omega) (by omega) (by omega) (by omega)).mono ?_
    rintro e w' ⟨rfl, rfl⟩
    exact ⟨_, rfl, ⟨rfl, .inl ⟨rfl, rfl⟩⟩, Below.refl _ _⟩
  · refine (Any8.slices_Grow_grow Try.grow87 i0 (.int .u8 0) hi hz0 (by omega) none 0 0 n [] w (by omega) (by omega) (by rw [hz2]; omega) (by omega) (by simp) (fun _ => rfl) (by simp)).mono ?_
    rintro e w' ⟨rfl, rfl⟩
    have hge : 0 + n ≤ grownCap w (0 + n) 0 (Try.grow87_ren.t 25) := grownCap_ge w (0 + n) 0 _
    have hle : grownCap w (0 + n) 0 (Try.grow87_ren.t 25) ≤ maxLen := grownCap_le_maxLen w (0 + n) 0 _ (by unfold maxLen; omega)
    generalize grownCap w (0 + n) 0 (Try.grow87_ren.t 25) = cp at hge hle ⊢
    refine ⟨_, rfl, ⟨rfl, .inr ⟨w.heap.size, _, _, rfl, Nat.le_refl _, World.alloc_heap_new _ _, by omega, hle, ?_, by simp⟩⟩, ((Below.refl _ w).drew).alloc (Nat.le_refl _) _⟩
    simp [Builtin.zeroCells, Value.cells]
    omega
theorem own_ge {w : World} {B E n : Nat} {v : Value} {xs : List Value} (h : w.ownsRow B E 1 v n xs) : ∀ k, v.ownBlock = some k → B ≤ k := by
  rcases h.2 with ⟨rfl, _⟩ | ⟨g, cap, cur, rfl, hg, rest⟩
  · simp [Value.ownBlock]
  · simp [Value.ownBlock]; omega
theorem kp_grown {w w' : World} {r : Option Nat} {B : Nat} (h : w.grownBy w' r) (hr : ∀ k, r = some k → B ≤ k) (hB : B ≤ w.heap.size) : Kp [] B w w' :=
  ⟨h.os, h.tape, h.output, h.size, fun k hk _ => h.block k (by omega) (fun e => by have := hr k e.symm; omega)⟩
set_option maxHeartbeats 1600000 in
set_option maxRecDepth 100000 in
/-- what came of a joining -/
theorem dConcat {A1 A2 : Nat → Prop} (blk : Nat) (v1 v2 : Value) (b1 b2 : List UInt8) (w : World) (k1 : w.cell? ⟨blk, 0, none⟩ = some v1) (k2 : w.cell? ⟨blk, 1, none⟩ = some v2) (hblk : blk < w.heap.size) (h1 : BytesV w A1 v1 b1) (h2 : BytesV w A2 v2 b2)
    (hlen : b1.length + b2.length ≤ 140737488355328) : Calls Try.prog 62 #[.slice (some ⟨blk, 0, none⟩) 2 2] w (NewB w (b1 ++ b2)) := by
  obtain ⟨n1, hn1⟩ : ∃ n, n = b1.length := ⟨_, rfl⟩
  obtain ⟨n2, hn2⟩ : ∃ n, n = b2.length := ⟨_, rfl⟩
  obtain ⟨a1, c1, rfl, hc1, _⟩ := id h1
  obtain ⟨a2, c2, rfl, hc2, _⟩ := id h2
  unfold NewB
  have hG : ∀ w, Calls Try.prog 87 #[.slice none 0 0, .int .i64 ((b1.length : Int) + (b2.length : Int))] w fun e w' => ∃ v, e = .returned v ∧ w'.ownsRow w.heap.size 5 1 v 0 [] ∧ Below w.heap.size w w' := fun w => by
    have := dGrow (b1.length + b2.length) w hlen
    rwa [Int.natCast_add] at this
  clear hn1 hn2
  go_enter Try.func62, Try.ntmps62
  go_wp2
  refine wp_loop_rounds 3 ?_
  rw [rounds_succ]
  go_wp2
  rw [rounds_succ]
  go_wp2
  rw [rounds_succ]
  go_wp2_with (go_at_call 87; go_must ((with_reducible refine (hG _).mono ?_); rintro e w1 ⟨v, rfl, ho, hb⟩))
  have j1 : w1.cell? ⟨blk, 0, none⟩ = some (.slice a1 b1.length c1) := (hb.cell (p := ⟨blk, 0, none⟩) hblk).trans k1
  have j2 : w1.cell? ⟨blk, 1, none⟩ = some (.slice a2 b2.length c2) := (hb.cell (p := ⟨blk, 1, none⟩) hblk).trans k2
  have hs := hb.size
  have H1 : BytesV w1 (fun k => k < w.heap.size) (.slice a1 b1.length c1) b1 := h1.mono hs (fun k _ hk => ⟨hk, hb.block k hk⟩)
  have H2 : BytesV w1 (fun k => k < w.heap.size) (.slice a2 b2.length c2) b2 := h2.mono hs (fun k _ hk => ⟨hk, hb.block k hk⟩)
  refine wp_loop_rounds 3 ?_
  rw [rounds_succ]
  go_wp2_with (at_builtin; go_must (refine wpList_appB rfl _ _ rfl w.heap.size v 0 [] rfl ho rfl H1 (by omega) hs ?_; intro v2 w2 ho2 hg2))
  have hv : ∀ k, v.ownBlock = some k → w.heap.size ≤ k := own_ge ho
  have hk2 : Kp [] w.heap.size w1 w2 := kp_grown hg2 hv hs
  have l2 : w2.cell? ⟨blk, 1, none⟩ = some (.slice a2 b2.length c2) := (hk2.cell (p := ⟨blk, 1, none⟩) hblk (by simp)).trans j2
  have H22 : BytesV w2 (fun k => k < w.heap.size) (.slice a2 b2.length c2) b2 := H2.mono hk2.size (fun k hk _ => ⟨hk, hk2.block k hk (by simp)⟩)
  have hs2 := Nat.le_trans hs hk2.size
  rw [rounds_succ]
  go_wp2_with (at_builtin; go_must (refine wpList_appB rfl _ _ rfl w.heap.size v2 (0 + b1.length) ([] ++ bcells b1) rfl ho2 rfl H22 (by omega) hs2 ?_; intro v3 w3 ho3 hg3))
  rw [rounds_succ]
  go_wp2
  go_ret
  have hk3 : Kp [] w.heap.size w2 w3 := kp_grown hg3 (own_ge ho2) hs2
  exact ⟨v3, rfl, by rw [bcells_app]; simpa [Nat.zero_add] using ho3, (((Kp.of_below hb (Nat.le_refl _)).trans hk2).trans hk3).below⟩
end Go.Proofs.Ytdabflkejhoghaa.Hand
