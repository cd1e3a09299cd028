/- The disk's law: deeds that came in; heavy, run. -/
import Derived.Below
import Derived.Deep.Draws
import Derived.Deep.AppendLies
import Derived.Maps.AppendAt
import Derived.OwnWalk
import Derived.Laws.BytesArg
import Derived.Laws.MakeOwn
import Derived.Laws.OwnMore
import Derived.Deep.OwnRows
import Derived.Tactics
import Derived.Lib.ConvBytes
import Derived.Laws.Slices
import Derived.WalkKit
import Derived.KernelRfl
import Derived.RowKit3
import Derived.Deep.LoopGhost
import Derived.Deep.QuietTactic
import Derived.BigQuiet
import Derived.WideLaws
import Derived.Deep.DeepCutAuto
import Derived.Deep.CutBlock
import Derived.Deep.RegionHeld3
import Derived.Laws.Rows
import Derived.Lib.AppendStr
import Derived.ArgAppend
import Derived.Laws.IdiomCopy
import Derived.OrdersHeld
import Derived.Laws.BitsLemmas
import Derived.RowKit
import Derived.Outline
import Derived.Maps.Own
import Derived.Maps.OwnOps
import Derived.Maps.OwnSet
import Derived.Maps.Views
import Derived.Maps.RangeWalk
import Derived.Maps.Ext
import Derived.RangeFuncOwn
import Derived.OneCell
import Derived.Deep.DeepMust
import Derived.Lib.Hide
import Derived.StillTailTactics
import Derived.Laws.AppendOwnNone
import Derived.WalkMore
import Derived.Lib.SlBytesConst
import Derived.WalkLawsBesides
import Derived.Laws.BitsAllLaws
import Derived.Test.YtdabflkejhoghaaHWa
import Derived.Test.YtdabflkejhoghaaWLast
import Derived.Test.YtdabflkejhoghaaHSi
import Derived.Test.YtdabflkejhoghaaHKb
namespace Go.Proofs.Ytdabflkejhoghaa.Hand
open Go Go.RowKit Go.Maps Go.WideMaps Go.Proofs.Ytdabflkejhoghaa.HW Go.Proofs.YtdabflkejhoghaaW.PrintLast
set_option linter.unusedVariables false
set_option linter.unusedSimpArgs false
/-- a deed: its kind, its names' numbers, its number, its bytes -/
structure Dd where
  k : Nat
  a : Nat
  z : Nat
  n : Int
  b : List UInt8
structure DeedAt (w : World) (y : Addr) (r : Dd) (v : Value) : Prop where
  lt : y.block < w.heap.size
  c0 : w.cell? y = some (.int .u8 (r.k : Int))
  c1 : w.cell? ⟨y.block, y.off + 1, none⟩ = some (.int .u8 (r.a : Int))
  c2 : w.cell? ⟨y.block, y.off + 2, none⟩ = some (.int .u8 (r.z : Int))
  c3 : w.cell? ⟨y.block, y.off + 3, none⟩ = some (.int .i64 r.n)
  c4 : w.cell? ⟨y.block, y.off + 4, none⟩ = some v
  bytes : BytesV w (fun k => k < w.heap.size) v r.b
  short : r.b.length ≤ 140737488351232
  rk : r.k < 256 ∧ r.a < 256 ∧ r.z < 256
  rn : -9223372036854775808 ≤ r.n ∧ r.n ≤ 9223372036854775807
def DeedsV (w : World) (a : Option Addr) (len cap : Nat) (rs : List (Dd × Value)) : Prop := rs.length = len ∧ ((a = none ∧ len = 0 ∧ cap = 0) ∨ ∃ x, a = some x ∧ len ≤ cap ∧ cap ≤ maxLen ∧ ∀ i (hi : i < rs.length), DeedAt w (x.add (i * 5)) rs[i].1 rs[i].2)
theorem DeedsV.at {w : World} {a : Option Addr} {len cap : Nat} {rs : List (Dd × Value)} (h : DeedsV w a len cap rs) (i : Nat) (hi : i < rs.length) : ∃ x, a = some x ∧ x.block < w.heap.size ∧ DeedAt w (x.add (i * 5)) rs[i].1 rs[i].2 := by
  obtain ⟨h1, h2⟩ := h
  rcases h2 with ⟨_, h3, _⟩ | ⟨x, rfl, _, _, h3⟩
  · omega
  · exact ⟨x, rfl, by have := (h3 i hi).lt; rwa [add_block] at this, h3 i hi⟩
/-- the weight of the first k deeds, as the machine reckons it -/
def weighs (rs : List (Dd × Value)) : Nat → Int
  | 0 => 0
  | k + 1 => wrap64 (weighs rs k + wrap64 (2 + ((rs.getD k (⟨0, 0, 0, 0, []⟩, .pointer none)).1.b.length : Int)))
set_option maxHeartbeats 1600000 in
set_option maxRecDepth 100000 in
theorem lheavy (a : Option Addr) (len cap : Nat) (rs : List (Dd × Value)) (w : World) (h : DeedsV w a len cap rs) (hl : len * 40 ≤ 140737488351232) :
    Calls Try.prog 36 #[.slice a len cap] w fun e w' => e = .returned (.bool (decide (800 < weighs rs len))) ∧ w' = w := by
  have HH := Lib.hid h
  have HL := Lib.hid h.1
  clear h
  go_enter Try.func36, Try.ntmps36
  go_wp2
  go_loopw [3, 4] (fun n i wr => ∃ k : Nat, k ≤ len ∧ n = .int .i64 (weighs rs k) ∧ i = .int .i64 (k : Int) ∧ wr = w) (fun _ i _ => len - (intOf i).toNat)
  case atStart => exact ⟨0, by omega, rfl, rfl, rfl⟩
  case round =>
    obtain ⟨k, hk, rfl, rfl, rfl⟩ := hrel
    by_cases hlt : k < len
    · have hkL : k < rs.length := by rw [HL.out]; exact hlt
      obtain ⟨x, rfl, hx, hd⟩ := HH.out.at k hkL
      obtain ⟨bo, bc, hve, -, -, -⟩ := id hd.bytes
      have c4 := hd.c4
      rw [hve] at c4
      have hkI : (k : Int) < (len : Int) := by omega
      have hk0 : (0 : Int) ≤ (k : Int) := by omega
      go_wp2
      go_roundw
      case rel => exact ⟨k + 1, by omega, by show _ = Value.int IntKind.i64 (wrap64 (weighs rs k + wrap64 (2 + ((rs.getD k (⟨0, 0, 0, 0, []⟩, .pointer none)).1.b.length : Int)))); simp [List.getD, List.getElem?_eq_getElem hkL], by go_num, by first | rfl | trivial⟩
      case measure => simp [intOf]; omega
    · have hkl : k = len := by omega
      subst hkl
      go_wp2
      go_ret
      exact ⟨rfl, rfl⟩
set_option maxHeartbeats 4000000 in
set_option maxRecDepth 100000 in
/-- what is done, on the program's disk -/
theorem lrun (A : Nat → Prop) (p mb : Nat) (d : Dk) (B : Nat → Prop) (k : Nat) (a z b : List UInt8) (n : Int) (vb : Value) (w : World) (h : IsDisk w A p mb d) (hb : BytesV w B vb b) (hB : ¬ B p) (ha : a.length ≤ maxLen) (hz : z.length ≤ maxLen) (hbl : b.length ≤ 140737488355328) (hn : -9223372036854775808 ≤ n ∧ n ≤ 9223372036854775807) (hk : 1 ≤ k ∧ k ≤ 6) (hA : ∀ k, w.heap.size ≤ k → A k) (hB2 : ∀ k, B k → k < w.heap.size) :
    Calls Try.prog 40 #[.pointer (some ⟨p, 0, none⟩), .agg #[.int .i64 (k : Int), .string ⟨a.toArray⟩, .string ⟨z.toArray⟩, .int .i64 n, vb]] w fun e w' => e = .returned (.bool (d.run k a z n b).2) ∧ IsDisk w' A p mb (d.run k a z n b).1 ∧ Kp [p, mb] w.heap.size w w' := by
  obtain ⟨bo, bc, rfl, -, -, -⟩ := id hb
  obtain ⟨bl, hbe⟩ : ∃ bl, bl = b.length := ⟨_, rfl⟩
  rw [← hbe] at hb hbl ⊢
  have HBE := Lib.hid hbe
  have hk6 : k = 1 ∨ k = 2 ∨ k = 3 ∨ k = 4 ∨ k = 5 ∨ k = 6 := by omega
  have kd := kp1 w (.cells #[.int .i64 (k : Int), .string ⟨a.toArray⟩, .string ⟨z.toArray⟩, .int .i64 n, .slice bo bl bc] 64)
  have hnw := World.alloc_heap_new w (.cells #[.int .i64 (k : Int), .string ⟨a.toArray⟩, .string ⟨z.toArray⟩, .int .i64 n, .slice bo bl bc] 64)
  have HD := Lib.hid (h.kp_ge kd)
  have HB := Lib.hid (hb.kp kd (by simp))
  have HA : Hid (∀ k, w.heap.size + 1 ≤ k → A k) := fun k hk => hA k (by omega)
  clear h hb hbe hA
  go_enter Try.func40, Try.ntmps40
  go_upto_region 1 with fail
  obtain ⟨W2, hW2⟩ : ∃ W2, W2 = w.alloc (.cells #[.int .i64 (k : Int), .string ⟨a.toArray⟩, .string ⟨z.toArray⟩, .int .i64 n, .slice bo bl bc] 64) := ⟨_, rfl⟩
  have hsz : W2.heap.size = w.heap.size + 1 := by rw [hW2]; simp
  rw [← hW2] at HD HB kd hnw ⊢
  obtain ⟨e0, e1, e2, e3, e4⟩ := boxT hnw
  have HKD := Lib.hid kd
  have HSZ := Lib.hid hsz
  clear hW2 kd hnw hsz
  rcases hk6 with rfl | rfl | rfl | rfl | rfl | rfl
  · go_wp2_with fail
    refine (dAppend A p mb d a b B _ W2 HD.out ha HB.out hB (by rw [← HBE.out]; exact hbl) (by rw [HSZ.out]; exact HA.out)).mono ?_
    rintro e w4 ⟨rfl, h4, k4⟩
    have H4 := Lib.hid h4
    have K4 : Hid (Kp [p, mb] w.heap.size w w4) := (HKD.out.mono (by simp) (Nat.le_refl _)).trans (k4.mono (by simp) (by have := HSZ.out; omega))
    clear h4 k4 e0 e1 e2 e3 e4
    go_wp2_with fail
    go_ret
    exact ⟨rfl, H4.out, K4.out⟩
  · clear e4
    go_wp2_with fail
    refine (dSync A p mb d a W2 HD.out ha).mono ?_
    rintro e w4 ⟨rfl, h4, k4⟩
    have H4 := Lib.hid h4
    have K4 : Hid (Kp [p, mb] w.heap.size w w4) := (HKD.out.mono (by simp) (Nat.le_refl _)).trans (k4.mono (by simp) (by have := HSZ.out; omega))
    clear h4 k4 e0 e1 e2 e3
    go_wp2_with fail
    go_ret
    exact ⟨rfl, H4.out, K4.out⟩
  · clear e4
    go_wp2_with fail
    refine (dRename A p mb d a z W2 HD.out ha hz).mono ?_
    rintro e w4 ⟨rfl, h4, k4⟩
    have H4 := Lib.hid h4
    have K4 : Hid (Kp [p, mb] w.heap.size w w4) := (HKD.out.mono (by simp) (Nat.le_refl _)).trans (k4.mono (by simp) (by have := HSZ.out; omega))
    clear h4 k4 e0 e1 e2 e3
    go_wp2_with fail
    go_ret
    exact ⟨rfl, H4.out, K4.out⟩
  · clear e4
    go_wp2_with fail
    refine (dDrop A p mb d a W2 HD.out ha).mono ?_
    rintro e w4 ⟨rfl, h4, k4⟩
    have H4 := Lib.hid h4
    have K4 : Hid (Kp [p, mb] w.heap.size w w4) := (HKD.out.mono (by simp) (Nat.le_refl _)).trans (k4.mono (by simp) (by have := HSZ.out; omega))
    clear h4 k4 e0 e1 e2 e3
    go_wp2_with fail
    go_ret
    exact ⟨rfl, H4.out, K4.out⟩
  · clear e4
    go_wp2_with fail
    refine (dFuse A p mb d n W2 HD.out hn).mono ?_
    rintro e w4 ⟨rfl, h4, k4⟩
    have H4 := Lib.hid h4
    have K4 : Hid (Kp [p, mb] w.heap.size w w4) := (HKD.out.mono (by simp) (Nat.le_refl _)).trans (k4.mono (by simp) (by have := HSZ.out; omega))
    clear h4 k4 e0 e1 e2 e3
    go_wp2_with fail
    go_ret
    exact ⟨rfl, H4.out, K4.out⟩
  · clear e4
    go_wp2_with fail
    refine (dCrash A p mb d n W2 HD.out hn).mono ?_
    rintro e w4 ⟨rfl, h4, k4⟩
    have H4 := Lib.hid h4
    have K4 : Hid (Kp [p, mb] w.heap.size w w4) := (HKD.out.mono (by simp) (Nat.le_refl _)).trans (k4.mono (by simp) (by have := HSZ.out; omega))
    clear h4 k4 e0 e1 e2 e3
    go_wp2_with fail
    go_ret
    exact ⟨rfl, H4.out, K4.out⟩
end Go.Proofs.Ytdabflkejhoghaa.Hand
