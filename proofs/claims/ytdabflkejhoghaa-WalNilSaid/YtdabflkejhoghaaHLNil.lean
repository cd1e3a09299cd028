/- WalNil: the walk. -/
import Derived.Below
import Derived.Deep.Draws
import Derived.Deep.AppendLies
import Derived.Maps.AppendAt
import Derived.OwnWalk
import Derived.Laws.BytesArg
import Derived.Laws.MakeOwn
import Derived.Laws.OwnMore
import Derived.Deep.OwnRows
import Derived.Tactics
import Derived.Lib.ConvBytes
import Derived.Laws.Slices
import Derived.WalkKit
import Derived.KernelRfl
import Derived.RowKit3
import Derived.Deep.LoopGhost
import Derived.Deep.QuietTactic
import Derived.BigQuiet
import Derived.WideLaws
import Derived.Deep.DeepCutAuto
import Derived.Deep.CutBlock
import Derived.Deep.RegionHeld3
import Derived.Laws.Rows
import Derived.Lib.AppendStr
import Derived.ArgAppend
import Derived.Laws.IdiomCopy
import Derived.OrdersHeld
import Derived.Laws.BitsLemmas
import Derived.RowKit
import Derived.Outline
import Derived.Maps.Own
import Derived.Maps.OwnOps
import Derived.Maps.OwnSet
import Derived.Maps.Views
import Derived.Maps.RangeWalk
import Derived.Maps.Ext
import Derived.RangeFuncOwn
import Derived.OneCell
import Derived.Deep.DeepMust
import Derived.Lib.Hide
import Derived.StillTailTactics
import Derived.Laws.AppendOwnNone
import Derived.WalkMore
import Derived.Lib.SlBytesConst
import Derived.WalkLawsBesides
import Derived.Laws.BitsAllLaws
import Derived.Test.YtdabflkejhoghaaHQf
import Derived.Test.YtdabflkejhoghaaHQb
namespace Go.Proofs.Ytdabflkejhoghaa.Hand
open Go Go.RowKit Go.Maps Go.WideMaps
set_option linter.unusedVariables false
set_option linter.unusedSimpArgs false
theorem wAppend_nil (ao : Option Addr) (m cap : Nat) (w : World) : Calls Try.prog 18 #[.pointer none, .slice ao m cap] w fun e w' => e = .returned (.int .u16 1) ∧ w = w' := by
  go_enter Try.func18, Try.ntmps18
  go_wp2_with fail
  refine (wSeq_nil w).mono ?_
  rintro e w1 ⟨rfl, rfl⟩
  go_wp2_with fail
  refine (wframe_nil _ _ w).mono ?_
  rintro e w1 ⟨rfl, rfl⟩
  go_wp2_with fail
  go_ret
  exact ⟨rfl, rfl⟩
theorem wPack_nil (ao : Option Addr) (m cap : Nat) (w : World) : Calls Try.prog 23 #[.pointer none, .slice ao m cap] w fun e w' => e = .returned (.int .u16 1) ∧ w = w' := by
  go_enter Try.func23, Try.ntmps23
  go_wp2_with fail
  refine (wSeq_nil w).mono ?_
  rintro e w1 ⟨rfl, rfl⟩
  go_wp2_with fail
  refine (wframe_nil _ _ w).mono ?_
  rintro e w1 ⟨rfl, rfl⟩
  go_wp2_with fail
  go_ret
  exact ⟨rfl, rfl⟩
theorem nil_big (a0 : Option Addr) (len0 cap0 : Nat) (w : World) (hbig : 100 < len0) :
    Calls Try.prog 5 #[.slice a0 len0 cap0] w fun e w' => e = .returned (.bool true) ∧ Kp [] w.heap.size w w' := by
  have hd : decide (100 < len0) = true := decide_eq_true hbig
  have hd' : decide ((100 : Int) < (len0 : Int)) = true := decide_eq_true (by omega)
  go_enter Try.func5, Try.ntmps5
  go_wp2_with fail
  refine (l14known _).mono ?_
  rintro e w1 ⟨rfl, k1⟩
  go_wp2_with fail
  go_ret
  exact ⟨rfl, k1⟩
set_option maxHeartbeats 1600000 in
set_option maxRecDepth 100000 in
theorem nil_small (a0 : Option Addr) (len0 cap0 : Nat) (w : World) (hs : ¬ 100 < len0) :
    Calls Try.prog 5 #[.slice a0 len0 cap0] w fun e w' => e = .returned (.bool true) ∧ Kp [] w.heap.size w w' := by
  have hd : decide (100 < len0) = false := decide_eq_false hs
  have hd' : decide ((100 : Int) < (len0 : Int)) = false := decide_eq_false (by omega)
  have e1 : (Dk.new 1000).append [120] [] = (⟨[⟨[120], [], 0⟩], 1000, none, false⟩, true) := by rfl
  have e2 : Dk.setFuse ⟨[⟨[120], [], 0⟩], 1000, none, false⟩ 0 = ⟨[⟨[120], [], 0⟩], 1000, some 0, false⟩ := by rfl
  have e3 : Dk.sync ⟨[⟨[120], [], 0⟩], 1000, some 0, false⟩ [120] = (⟨[⟨[120], [], 0⟩], 1000, some 0, true⟩, false) := by rfl
  have e4 : Dk.openD ⟨[⟨[120], [], 0⟩], 1000, some 0, true⟩ = ⟨⟨[⟨[120], [], 0⟩], 1000, some 0, true⟩, 22, [], [], 0⟩ := by rfl
  have E1 := Lib.hid e1; have E2 := Lib.hid e2; have E3 := Lib.hid e3; have E4 := Lib.hid e4
  clear e1 e2 e3 e4
  go_enter Try.func5, Try.ntmps5
  go_wp2_with fail
  refine (wOpen_nil w).mono ?_
  rintro e w1 ⟨rfl, k1⟩
  have K1 := Lib.hid k1
  clear k1 hd hd'
  go_wp2_with fail
  refine (dNew (fun _ => False) 1000 _ (by omega) ⟨id, id⟩).mono ?_
  rintro e w2 ⟨rfl, h2, k2⟩
  have hz2 := h2.lt
  obtain ⟨A, hA⟩ : ∃ A : Nat → Prop, A = fun k => w2.heap.size ≤ k := ⟨_, rfl⟩
  have h2' : IsDisk w2 A (w1.heap.size + 1) w1.heap.size (Dk.new 1000) := h2.widen (fun _ h => h.elim) (by rw [hA]; exact ⟨by omega, by omega⟩)
  have HA := Lib.hid hA
  have H2 := Lib.hid h2'
  have K2 := Lib.hid (K1.out.trans (k2.mono (by simp) K1.out.size))
  clear h2 h2' k2 hA
  go_wp2_with fail
  refine (dAppend A _ _ _ [120] [] (fun _ => False) _ w2 H2.out (by decide) (BytesV.nil _ _) id (by decide) (fun k hk => by rw [HA.out]; exact hk)).mono ?_
  rintro e w3 ⟨rfl, h3, k3⟩
  rw [E1.out] at h3 ⊢
  have H3 := Lib.hid h3
  have hz1 := K1.out.size
  have K3 := Lib.hid (K2.out.trans (k3.shed (B' := w.heap.size) (by simp; omega) K2.out.size))
  clear h3 k3
  go_wp2_with fail
  refine (dFuse A _ _ _ 0 w3 H3.out (by omega)).mono ?_
  rintro e w4 ⟨rfl, h4, k4⟩
  rw [E2.out] at h4
  have H4 := Lib.hid h4
  have K4 := Lib.hid (K3.out.trans (k4.shed (B' := w.heap.size) (by simp; omega) K3.out.size))
  clear h4 k4
  go_wp2_with fail
  refine (dSync A _ _ _ [120] w4 H4.out (by decide)).mono ?_
  rintro e w5 ⟨rfl, h5, k5⟩
  rw [E3.out] at h5 ⊢
  have H5 := Lib.hid h5
  have K5 := Lib.hid (K4.out.trans (k5.shed (B' := w.heap.size) (by simp; omega) K4.out.size))
  clear h5 k5
  go_wp2_with fail
  refine (wOpen_dead w5 H5.out rfl).mono ?_
  rintro e w6 ⟨rfl, h6, k6⟩
  have K6 := Lib.hid (K5.out.trans (k6.shed (B' := w.heap.size) (by simp; omega) K5.out.size))
  clear h6 k6
  go_wp2_with fail
  refine (l14known _).mono ?_
  rintro e w7 ⟨rfl, k7⟩
  have K7 := Lib.hid (K6.out.trans (k7.mono (by simp) K6.out.size))
  clear k7
  go_wp2_with fail
  refine (wAppend_nil _ _ _ _).mono ?_
  rintro e w8 ⟨rfl, rfl⟩
  go_wp2_with fail
  refine (wPack_nil _ _ _ _).mono ?_
  rintro e w8 ⟨rfl, rfl⟩
  go_wp2_with fail
  refine (wSeq_nil _).mono ?_
  rintro e w8 ⟨rfl, rfl⟩
  go_wp2_with fail
  refine (wLong_nil _).mono ?_
  rintro e w8 ⟨rfl, rfl⟩
  go_wp2_with fail
  go_ret
  exact ⟨rfl, K7.out⟩
theorem walNil_row (a0 : Option Addr) (len0 cap0 : Nat) (z0 : List Int) (w : World)
    (w0 : (a0 = none ∧ len0 = 0 ∧ cap0 = 0 ∧ z0 = []) ∨ ∃ x, a0 = some x ∧ len0 ≤ cap0 ∧ cap0 ≤ maxLen ∧ z0.length = cap0 ∧ (∀ i, i < z0.length → w.cell? (x.add i) = some (.int .u8 (z0.getD i 0))) ∧ ∀ n ∈ z0, (Lit.int .u8 n).wf = true) (y0 : len0 * 1 ≤ 140737488351232) :
    Calls Try.prog 5 #[.slice a0 len0 cap0] w fun e w' => e = .returned (.bool true) ∧ Below w.heap.size w w' := by
  by_cases hbig : 100 < len0
  · exact (nil_big a0 len0 cap0 w hbig).mono fun e w' ⟨h1, h2⟩ => ⟨h1, h2.below⟩
  · exact (nil_small a0 len0 cap0 w hbig).mono fun e w' ⟨h1, h2⟩ => ⟨h1, h2.below⟩
end Go.Proofs.Ytdabflkejhoghaa.Hand
