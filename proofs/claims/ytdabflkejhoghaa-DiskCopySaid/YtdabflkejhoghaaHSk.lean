/- The disk's law: rows of names, the same. -/
import Derived.Below
import Derived.Deep.Draws
import Derived.Deep.AppendLies
import Derived.Maps.AppendAt
import Derived.OwnWalk
import Derived.Laws.BytesArg
import Derived.Laws.MakeOwn
import Derived.Laws.OwnMore
import Derived.Deep.OwnRows
import Derived.Tactics
import Derived.Lib.ConvBytes
import Derived.Laws.Slices
import Derived.WalkKit
import Derived.KernelRfl
import Derived.RowKit3
import Derived.Deep.LoopGhost
import Derived.Deep.QuietTactic
import Derived.BigQuiet
import Derived.WideLaws
import Derived.Deep.DeepCutAuto
import Derived.Deep.CutBlock
import Derived.Deep.RegionHeld3
import Derived.Laws.Rows
import Derived.Lib.AppendStr
import Derived.ArgAppend
import Derived.Laws.IdiomCopy
import Derived.OrdersHeld
import Derived.Laws.BitsLemmas
import Derived.RowKit
import Derived.Outline
import Derived.Maps.Own
import Derived.Maps.OwnOps
import Derived.Maps.OwnSet
import Derived.Maps.Views
import Derived.Maps.RangeWalk
import Derived.Maps.Ext
import Derived.RangeFuncOwn
import Derived.OneCell
import Derived.Deep.DeepMust
import Derived.Lib.Hide
import Derived.StillTailTactics
import Derived.Laws.AppendOwnNone
import Derived.WalkMore
import Derived.Lib.SlBytesConst
import Derived.WalkLawsBesides
import Derived.Laws.BitsAllLaws
import Derived.Test.YtdabflkejhoghaaWLast
import Derived.Test.YtdabflkejhoghaaHWa
import Derived.Test.YtdabflkejhoghaaHSd
namespace Go.Proofs.Ytdabflkejhoghaa.Hand
open Go Go.RowKit Go.Maps Go.WideMaps Go.Proofs.Ytdabflkejhoghaa.HW Go.Proofs.YtdabflkejhoghaaW.PrintLast
set_option linter.unusedVariables false
set_option linter.unusedSimpArgs false
/-- a row of names of one's own -/
def NamesV (w : World) (base : Nat) (v : Value) (L : List (List UInt8)) : Prop := w.ownsRow base 9 1 v L.length (L.map encStr)
theorem NamesV.nil (w : World) (base : Nat) : NamesV w base (.slice none 0 0) [] := ⟨rfl, .inl ⟨rfl, rfl⟩⟩
theorem NamesV.kp {w w' : World} {base : Nat} {v : Value} {L : List (List UInt8)} (h : NamesV w base v L) (hk : Kp [] w.heap.size w w') : NamesV w' base v L := own_kp h hk (Nat.le_refl _)
theorem NamesV.shape {w : World} {base : Nat} {v : Value} {L : List (List UInt8)} (h : NamesV w base v L) : ∃ ao cap, v = .slice ao L.length cap ∧ L.length ≤ cap ∧ cap ≤ maxLen := by
  obtain ⟨_, h2⟩ := h
  rcases h2 with ⟨rfl, hn⟩ | ⟨g, cap, cur, rfl, _, _, h3, h4, _⟩
  · exact ⟨none, 0, by simp [hn], by simp [hn], by decide⟩
  · exact ⟨_, cap, rfl, h3, h4⟩
theorem NamesV.at {w : World} {base : Nat} {ao : Option Addr} {n cap : Nat} {L : List (List UInt8)} (h : NamesV w base (.slice ao n cap) L) (j : Nat) (hj : j < L.length) : ∃ g, ao = some ⟨g, 0, none⟩ ∧ g < w.heap.size ∧ w.cell? ⟨g, j, none⟩ = some (.string ⟨L[j].toArray⟩) := by
  have h0 := h
  obtain ⟨h1, h2⟩ := h
  rcases h2 with ⟨hv, hn⟩ | ⟨g, cap', cur, hv, hg, hb, h3, h4, h5⟩
  · have : L.length = 0 := hn
    omega
  · obtain ⟨rfl, rfl, rfl⟩ : ao = some ⟨g, 0, none⟩ ∧ n = L.length ∧ cap = cap' := by injection hv with a b c; exact ⟨a, b, c⟩
    refine ⟨g, rfl, (Array.getElem?_eq_some_iff.1 hb).1, ?_⟩
    have := (own_cell h0 j (by simpa using hj)).1
    rw [this]
    simp [encStr]
set_option maxHeartbeats 1000000 in
set_option maxRecDepth 100000 in
/-- the same names -/
theorem lsameT {B B' : Nat} (v v' : Value) (L : List (List UInt8)) (w : World) (h : NamesV w B v L) (h' : NamesV w B' v' L) (hL : L.length ≤ 9223372036854775807) :
    Calls Try.prog 72 #[v, v'] w fun e w' => e = .returned (.bool true) ∧ ∃ q, w' = w.drewN q := by
  obtain ⟨ao, cap, rfl, hc, -⟩ := h.shape
  obtain ⟨ao', cap', rfl, hc', -⟩ := h'.shape
  obtain ⟨m, hm⟩ : ∃ m, m = L.length := ⟨_, rfl⟩
  rw [← hm] at hL h h' hc hc' ⊢
  have HM := Lib.hid hm
  have HR := Lib.hid h
  have HR' := Lib.hid h'
  have q1 : ((m : Int) == (m : Int)) = true := by simp
  have q2 : ((m : Int) != (m : Int)) = false := by simp
  clear h h' hm
  go_enter Try.func72, Try.ntmps72
  go_wp2
  clear q1 q2
  go_loopw [5] (fun i wr => ∃ k : Nat, k ≤ m ∧ i = .int .i64 (k : Int) ∧ Hid (∃ q, wr = w.drewN q)) (fun i _ => m - (intOf i).toNat)
  case atStart => exact ⟨0, by omega, rfl, 0, rfl⟩
  case round =>
    obtain ⟨k, hk, rfl, q, rfl⟩ := hrel
    by_cases hlt : k < m
    · have hkL : k < L.length := by rw [← HM.out]; exact hlt
      obtain ⟨x, rfl, hx0, hcell⟩ := HR.out.at k hkL
      obtain ⟨x', rfl, hx0', hcell'⟩ := HR'.out.at k hkL
      obtain ⟨z, hz⟩ : ∃ z : ByteArray, z = ⟨L[k].toArray⟩ := ⟨_, rfl⟩
      rw [← hz] at hcell hcell'
      have e2 : (z.toList == z.toList) = true := by simp
      clear hz
      go_upto_region 6 with fail
      go_quiet (fail)
      trace_state
      go_wp2
      go_roundw
      case rel => exact ⟨k + 1, by omega, by go_num, q + nq, rfl⟩
      case measure => simp [intOf]; omega
    · go_wp2
      go_ret
      exact ⟨rfl, q, rfl⟩
end Go.Proofs.Ytdabflkejhoghaa.Hand
