/- Rows, joined. -/
import Derived.Below
import Derived.Deep.Draws
import Derived.Deep.AppendLies
import Derived.Maps.AppendAt
import Derived.OwnWalk
import Derived.Laws.BytesArg
import Derived.Laws.MakeOwn
import Derived.Laws.OwnMore
import Derived.Deep.OwnRows
import Derived.Tactics
import Derived.Lib.ConvBytes
import Derived.Laws.Slices
import Derived.WalkKit
import Derived.KernelRfl
import Derived.RowKit3
import Derived.Deep.LoopGhost
import Derived.Deep.QuietTactic
import Derived.BigQuiet
import Derived.WideLaws
import Derived.Deep.DeepCutAuto
import Derived.Deep.CutBlock
import Derived.Deep.RegionHeld3
import Derived.Laws.Rows
import Derived.Lib.AppendStr
import Derived.ArgAppend
import Derived.Laws.IdiomCopy
import Derived.OrdersHeld
import Derived.Laws.BitsLemmas
import Derived.RowKit
import Derived.Outline
import Derived.Maps.Own
import Derived.Maps.OwnOps
import Derived.Maps.OwnSet
import Derived.Maps.Views
import Derived.Maps.RangeWalk
import Derived.Maps.Ext
import Derived.RangeFuncOwn
import Derived.OneCell
import Derived.Deep.DeepMust
import Derived.Lib.Hide
import Derived.StillTailTactics
import Derived.Laws.AppendOwnNone
import Derived.WalkMore
import Derived.Lib.SlBytesConst
import Derived.WalkLawsBesides
import Derived.Laws.BitsAllLaws
import Derived.Test.YtdabflkejhoghaaHKc
import Derived.Test.YtdabflkejhoghaaHPt
namespace Go.Proofs.Ytdabflkejhoghaa.Hand
open Go Go.RowKit Go.Maps Go.WideMaps
set_option linter.unusedVariables false
set_option linter.unusedSimpArgs false
/-- a text of bytes -/
def bs (l : List UInt8) : ByteArray := ⟨l.toArray⟩
theorem bs_app (a b : List UInt8) : bs a ++ bs b = bs (a ++ b) := by
  apply ByteArray.ext
  simp [bs, ByteArray.data_append]
theorem conv_back (s : List UInt8) (w : World) (hs : s.length ≤ 10000) : ∃ W c, (convert 9 22 (.string (bs s))).run Try.prog w = .ok (.slice (some ⟨w.heap.size, 0, none⟩) s.length c) W ∧
    BytesV W (fun k => w.heap.size ≤ k) (.slice (some ⟨w.heap.size, 0, none⟩) s.length c) s ∧ w.heap.size < W.heap.size ∧ Kp [] w.heap.size w W := by
  have hrun := run_bytes_of_string (P := Try.prog) w 9 22 5 (bs s) Try.underlying9 Try.underlying22 Try.underlying5
  have hsz : (bs s).size = s.length := by simp [bs, ByteArray.size]
  rw [hsz] at hrun
  obtain ⟨c, hc⟩ : ∃ c, c = grownCap w s.length 0 5 := ⟨_, rfl⟩
  rw [← hc] at hrun
  have hcap : s.length ≤ c ∧ c ≤ 9223372036854775807 := by
    rw [hc]
    exact ⟨grownCap_ge _ _ _ _, Nat.le_trans (grownCap_le_maxLen _ _ _ _ (by unfold maxLen; omega)) (by unfold maxLen; omega)⟩
  have kb : Kp [] w.heap.size w (w.drew.alloc (.cells (bytesRow (bs s) c) 5 ((bytesRow (bs s) c).size, (bytesRow (bs s) c).size + 1))) := ((Kp.refl _ _ _).drew 1).alloc (Nat.le_refl _) _
  refine ⟨_, c, hrun, ?_, ?_, kb⟩
  · refine BytesV.cells (World.alloc_heap_new _ _) (Nat.le_refl _) (fun j hj => ?_) hcap.1 hcap.2
    exact bytesRow_at (bs s) c j (by simpa [bs] using hj)
  · simp
theorem RdRows.take {w : World} {a : Option Addr} {n cap : Nat} {L : List (List UInt8)} (h : RdRows w (.slice a n cap) L) (k : Nat) (hk : k ≤ n) : RdRows w (.slice a k cap) (L.take k) := by
  obtain ⟨ao, cap', he, hc, h⟩ := h
  injection he with he1 he2 he3
  subst he1; subst he2; subst he3
  have hl : (L.take k).length = k := by simp; omega
  refine ⟨a, cap, by rw [hl], by omega, fun i hi => ?_⟩
  have hi' : i < L.length := by omega
  obtain ⟨x, so, n, c, h1, h2, h3, h4, h5⟩ := h i hi'
  have e : (L.take k)[i] = L[i] := by simp
  exact ⟨x, so, n, c, h1, h2, h3, by rw [e]; exact h4, by rw [e]; exact h5⟩
set_option maxHeartbeats 1000000 in
set_option maxRecDepth 100000 in
/-- rows, each with a bar behind it -/
theorem l14join (v : Value) (L : List (List UInt8)) (w : World) (h : RdRows w v L) (hL : L.length ≤ 12) (ht : total L ≤ 300) :
    Calls Try.prog 49 #[v] w fun e w' => e = .returned (.string (bs (joinB L))) ∧ w = w' := by
  obtain ⟨ao, cap, rfl, hc, hr⟩ := h
  obtain ⟨m, hm⟩ : ∃ m, m = L.length := ⟨_, rfl⟩
  rw [← hm] at hL ⊢
  have HM := Lib.hid hm
  have HR := Lib.hid hr
  clear hr hm
  go_enter Try.func49, Try.ntmps49
  go_wp2
  go_loop [3, 4] (fun s i => ∃ k : Nat, k ≤ m ∧ i = .int .i64 (k : Int) ∧ ∃ z : ByteArray, s = .string z ∧ Hid (z = bs (joinB (L.take k)))) (fun _ i => m - (intOf i).toNat)
  case atStart => exact ⟨0, by omega, rfl, _, rfl, rfl⟩
  case round =>
    obtain ⟨k, hk, rfl, z, rfl, hz⟩ := hrel
    by_cases hlt : k < m
    · have hkL : k < L.length := by rw [← HM.out]; exact hlt
      obtain ⟨x, so, n, c, rfl, -, hcell, hn, hb⟩ := HR.out k hkL
      have cv := conv_bytes hb
      obtain ⟨y, hy⟩ : ∃ y : ByteArray, y = ⟨L[k].toArray⟩ := ⟨_, rfl⟩
      rw [← hy] at cv
      have HY := Lib.hid hy
      have sy : y.size ≤ 300 := by rw [hy]; simp [ByteArray.size]; have := total_mem (List.getElem_mem hkL); omega
      have sz : z.size ≤ 400 := by
        rw [hz.out]; show (joinB (L.take k)).toArray.size ≤ 400
        rw [List.size_toArray, joinB_length]; have := total_take_le L k; simp; omega
      clear hy hb hn
      go_wp2
      go_round
      case rel =>
        refine ⟨k + 1, by omega, by go_num, _, rfl, ?_⟩
        show _ = bs (joinB (L.take (k + 1)))
        rw [hz.out, HY.out, List.take_succ_eq_append_getElem hkL, joinB_app]
        have e : joinB [L[k]] = L[k] ++ [124] := by simp [joinB]
        rw [e, ← bs_app, ← bs_app, ByteArray.append_assoc]
        rfl
      case measure => simp [intOf]; omega
    · obtain rfl : k = m := by omega
      go_wp2
      go_ret
      refine ⟨?_, rfl⟩
      show Ending.returned (.string z) = _
      rw [hz.out, HM.out, List.take_length]
end Go.Proofs.Ytdabflkejhoghaa.Hand
