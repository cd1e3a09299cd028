/- The chapter's example. -/
import Derived.Below
import Derived.Deep.Draws
import Derived.Deep.AppendLies
import Derived.Maps.AppendAt
import Derived.OwnWalk
import Derived.Laws.BytesArg
import Derived.Laws.MakeOwn
import Derived.Laws.OwnMore
import Derived.Deep.OwnRows
import Derived.Tactics
import Derived.Lib.ConvBytes
import Derived.Laws.Slices
import Derived.WalkKit
import Derived.KernelRfl
import Derived.RowKit3
import Derived.Deep.LoopGhost
import Derived.Deep.QuietTactic
import Derived.BigQuiet
import Derived.WideLaws
import Derived.Deep.DeepCutAuto
import Derived.Deep.CutBlock
import Derived.Deep.RegionHeld3
import Derived.Laws.Rows
import Derived.Lib.AppendStr
import Derived.ArgAppend
import Derived.Laws.IdiomCopy
import Derived.OrdersHeld
import Derived.Laws.BitsLemmas
import Derived.RowKit
import Derived.Outline
import Derived.Maps.Own
import Derived.Maps.OwnOps
import Derived.Maps.OwnSet
import Derived.Maps.Views
import Derived.Maps.RangeWalk
import Derived.Maps.Ext
import Derived.RangeFuncOwn
import Derived.OneCell
import Derived.Deep.DeepMust
import Derived.Lib.Hide
import Derived.StillTailTactics
import Derived.Laws.AppendOwnNone
import Derived.WalkMore
import Derived.Lib.SlBytesConst
import Derived.Test.YtdabflkejhoghaaHDo
namespace Go.Proofs.Ytdabflkejhoghaa.Hand
open Go Go.RowKit Go.Maps Go.WideMaps
set_option linter.unusedVariables false
theorem BytesV.cells {w : World} {A : Nat → Prop} {g cap : Nat} {cs : Array Value} {T : TypeId} {fr : Nat × Nat} {b : List UInt8} (hb : w.heap[g]? = some (.cells cs T fr)) (hA : A g) (hc : ∀ j (hj : j < b.length), cs[j]? = some (.int .u8 ((b[j]'hj).toNat : Int))) (h1 : b.length ≤ cap) (h2 : cap ≤ 9223372036854775807) :
    BytesV w A (.slice (some ⟨g, 0, none⟩) b.length cap) b := by
  refine ⟨_, cap, rfl, h1, h2, .inr ⟨_, rfl, fun _ => ⟨hA, (Array.getElem?_eq_some_iff.1 hb).1⟩, fun j hj => ?_⟩⟩
  have e : (⟨g, 0, none⟩ : Addr).add j = ⟨g, j, none⟩ := by unfold Addr.add; split <;> simp_all
  rw [e, Lib.cell_of_heap hb, hc j hj]
theorem BytesV.lit2 {w : World} {A : Nat → Prop} {x y : UInt8} {T : TypeId} {fr : Nat × Nat} (hA : A w.heap.size) : BytesV (w.alloc (.cells #[.int .u8 (x.toNat : Int), .int .u8 (y.toNat : Int)] T fr)) A (.slice (some ⟨w.heap.size, 0, none⟩) 2 2) [x, y] :=
  BytesV.cells (b := [x, y]) (World.alloc_heap_new w _) hA (fun j hj => by match j, hj with | 0, _ => rfl | 1, _ => rfl) (Nat.le_refl _) (by decide)
/-- bytes, as a text -/
theorem conv_bytes {w : World} {A : Nat → Prop} {v : Value} {b : List UInt8} (h : BytesV w A v b) : (convert 22 9 v).run Try.prog w = .ok (.string ⟨b.toArray⟩) w := by
  obtain ⟨ao, cap, rfl, h1, h2, h3⟩ := h
  rcases h3 with ⟨rfl, rfl, rfl⟩ | ⟨a, rfl, _, hc⟩
  · exact run_convert_bytes_nil w 22 5 Try.underlying22 Try.underlying5 0 0 9 Try.underlying9
  · exact run_convert_bytes_back w 22 9 5 a cap b Try.underlying22 Try.underlying5 Try.underlying9 hc
theorem own_bytesV {w : World} {B n : Nat} {v : Value} {b : List UInt8} (h : w.ownsRow B 5 1 v n (bcells b)) : BytesV w (fun k => B ≤ k) v b := BytesV.own h (fun k hk => hk)
theorem Kp.shed {L : List Nat} {B B' : Nat} {x y : World} (h : Kp L B x y) (hL : ∀ k ∈ L, B' ≤ k) (hB : B' ≤ B) : Kp [] B' x y :=
  ⟨h.os, h.tape, h.output, h.size, fun k hk _ => h.block k (by omega) (fun e => by have := hL k e; omega)⟩
def knownP (w : World) (e : Ending) (w' : World) : Prop := e = .returned (.bool true) ∧ Kp [] w.heap.size w w'
set_option maxHeartbeats 1600000 in
set_option maxRecDepth 100000 in
theorem lknown (w : World) : Calls Try.prog 28 #[] w (knownP w) := by
  obtain ⟨A, hA⟩ : ∃ A : Nat → Prop, A = fun k => w.heap.size + 1 < k := ⟨_, rfl⟩
  have hA1 : ∀ k, w.heap.size + 1 < k → A k := fun k hk => by rw [hA]; exact hk
  have hA2 : ¬ A w.heap.size ∧ ¬ A (w.heap.size + 1) := by rw [hA]; exact ⟨by omega, by omega⟩
  clear hA
  have e1 : ((Dk.new 100).append [120] [97, 98]) = (⟨[⟨[120], [97, 98], 0⟩], 100, none, false⟩, true) := by rfl
  have e2 : (Dk.sync ⟨[⟨[120], [97, 98], 0⟩], 100, none, false⟩ [120]) = (⟨[⟨[120], [97, 98], 2⟩], 100, none, false⟩, true) := by rfl
  have e3 : (Dk.append ⟨[⟨[120], [97, 98], 2⟩], 100, none, false⟩ [120] [99, 100]) = (⟨[⟨[120], [97, 98, 99, 100], 2⟩], 100, none, false⟩, true) := by rfl
  have e4 : (Dk.crash ⟨[⟨[120], [97, 98, 99, 100], 2⟩], 100, none, false⟩ 1) = ⟨[⟨[120], [97, 98, 99], 3⟩], 100, none, false⟩ := by rfl
  have E1 := Lib.hid e1; have E2 := Lib.hid e2; have E3 := Lib.hid e3; have E4 := Lib.hid e4
  clear e1 e2 e3 e4
  unfold knownP
  have kc := fun (w : World) (C : Array Value) (n c : Nat) => Lib.run_convert_bytes_const (P := Try.prog) w 22 5 C n c Try.underlying22 Try.underlying5
  go_enter Try.func28, Try.ntmps28
  go_wp2_with fail
  refine (dNew A 100 _ (by omega) hA2).mono ?_
  rintro e w1 ⟨rfl, h1, k1⟩
  have hz1 := h1.lt
  have hB1 : BytesV (w1.alloc (.cells #[.int .u8 97, .int .u8 98] 5 (2, 3))) (fun k => k ≠ w.heap.size + 1) (.slice (some ⟨w1.heap.size, 0, none⟩) 2 2) [97, 98] := BytesV.lit2 (x := 97) (y := 98) (by omega)
  have h1' : IsDisk (w1.alloc (.cells #[.int .u8 97, .int .u8 98] 5 (2, 3))) A (w.heap.size + 1) w.heap.size (Dk.new 100) := h1.kp_ge ((Kp.refl _ _ _).alloc (Nat.le_refl _) _)
  go_wp2_with fail
  refine (dAppend A _ _ _ [120] [97, 98] _ _ _ h1' (by decide) hB1 (by simp) (by decide) (fun k hk => hA1 k (by simp at hk; omega))).mono ?_
  rintro e w2 ⟨rfl, h2, k2⟩
  rw [E1.out] at h2 ⊢
  have K2 := (k1.alloc k1.size _).trans (k2.shed (B' := w.heap.size) (by simp) (by have := k1.size; simp; omega))
  go_wp2_with fail
  refine (dSync A _ _ _ [120] _ h2 (by decide)).mono ?_
  rintro e w3 ⟨rfl, h3, k3⟩
  rw [E2.out] at h3 ⊢
  have K3 := K2.trans (k3.shed (by simp) K2.size)
  have hB2 : BytesV (w3.alloc (.cells #[.int .u8 99, .int .u8 100] 5 (2, 3))) (fun k => k ≠ w.heap.size + 1) (.slice (some ⟨w3.heap.size, 0, none⟩) 2 2) [99, 100] := BytesV.lit2 (x := 99) (y := 100) (by have := h3.lt; omega)
  have h3' := h3.kp_ge ((Kp.refl _ _ _).alloc (Nat.le_refl _) (.cells #[.int .u8 99, .int .u8 100] 5 (2, 3)))
  have hz3 := h3.lt
  go_wp2_with fail
  refine (dAppend A _ _ _ [120] [99, 100] _ _ _ h3' (by decide) hB2 (by simp) (by decide) (fun k hk => hA1 k (by simp at hk; omega))).mono ?_
  rintro e w4 ⟨rfl, h4, k4⟩
  rw [E3.out] at h4 ⊢
  have K4 := (K3.alloc K3.size _).trans (k4.shed (by simp) (by have := K3.size; simp; omega))
  go_wp2_with fail
  refine (dCrash A _ _ _ 1 _ h4 (by decide)).mono ?_
  rintro e w5 ⟨rfl, h5, k5⟩
  rw [E4.out] at h5
  have K5 := K4.trans (k5.shed (by simp) K4.size)
  go_wp2_with fail
  refine (dRead A _ _ _ [120] _ h5 (by decide)).mono ?_
  rintro e w6 ⟨v, rfl, hr, k6⟩
  have cv := conv_bytes (own_bytesV hr)
  have h6 := h5.kp_ge k6
  have K6 := K5.trans (k6.shed (by simp) K5.size)
  rw [show Dk.there ⟨[⟨[120], [97, 98, 99], 3⟩], 100, none, false⟩ [120] = true from rfl]
  rw [show (Dk.old ⟨[⟨[120], [97, 98, 99], 3⟩], 100, none, false⟩ [120]).b = [97, 98, 99] from rfl] at cv
  go_wp2_with fail
  refine (dLasting A _ _ _ [120] _ h6 (by decide)).mono ?_
  rintro e w7 ⟨v7, rfl, hr7, k7⟩
  have cv7 := conv_bytes (own_bytesV hr7)
  have K7 := K6.trans (k7.shed (by simp) K6.size)
  rw [show (Dk.old ⟨[⟨[120], [97, 98, 99], 3⟩], 100, none, false⟩ [120]).last = [97, 98, 99] from rfl] at cv7
  go_wp2_with fail
  go_ret
  exact ⟨rfl, K7⟩
end Go.Proofs.Ytdabflkejhoghaa.Hand
