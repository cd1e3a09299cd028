/- Rows that are read: many, same. -/
import Derived.Below
import Derived.Deep.Draws
import Derived.Deep.AppendLies
import Derived.Maps.AppendAt
import Derived.OwnWalk
import Derived.Laws.BytesArg
import Derived.Laws.MakeOwn
import Derived.Laws.OwnMore
import Derived.Deep.OwnRows
import Derived.Tactics
import Derived.Lib.ConvBytes
import Derived.Laws.Slices
import Derived.WalkKit
import Derived.KernelRfl
import Derived.RowKit3
import Derived.Deep.LoopGhost
import Derived.Deep.QuietTactic
import Derived.BigQuiet
import Derived.WideLaws
import Derived.Deep.DeepCutAuto
import Derived.Deep.CutBlock
import Derived.Deep.RegionHeld3
import Derived.Laws.Rows
import Derived.Lib.AppendStr
import Derived.ArgAppend
import Derived.Laws.IdiomCopy
import Derived.OrdersHeld
import Derived.Laws.BitsLemmas
import Derived.RowKit
import Derived.Outline
import Derived.Maps.Own
import Derived.Maps.OwnOps
import Derived.Maps.OwnSet
import Derived.Maps.Views
import Derived.Maps.RangeWalk
import Derived.Maps.Ext
import Derived.RangeFuncOwn
import Derived.OneCell
import Derived.Deep.DeepMust
import Derived.Lib.Hide
import Derived.StillTailTactics
import Derived.Laws.AppendOwnNone
import Derived.WalkMore
import Derived.Lib.SlBytesConst
import Derived.WalkLawsBesides
import Derived.Laws.BitsAllLaws
import Derived.Test.YtdabflkejhoghaaGreatHKb
import Derived.Test.YtdabflkejhoghaaGreatHPk
namespace Go.Proofs.YtdabflkejhoghaaGreat.Hand
open Go Go.RowKit Go.Maps Go.WideMaps
set_option linter.unusedVariables false
set_option linter.unusedSimpArgs false
/-- slices of bytes, in a slice, as they are read -/
def RdRows (w : World) (v : Value) (L : List (List UInt8)) : Prop := ∃ (ao : Option Addr) (cap : Nat), v = .slice ao L.length cap ∧ L.length ≤ cap ∧ ∀ i (hi : i < L.length), ∃ x so n c, ao = some x ∧ x.block < w.heap.size ∧ w.cell? (x.add i) = some (.slice so n c) ∧ n = L[i].length ∧ BytesV w (fun k => k < w.heap.size) (.slice so n c) L[i]
theorem RdRows.of_own {w : World} {base : Nat} {v : Value} {L : List (List UInt8)} (h : RowsR w base v L) : RdRows w v L := by
  obtain ⟨ao, cap, rfl, hc, _⟩ := h.shape
  refine ⟨ao, cap, rfl, hc, fun i hi => ?_⟩
  obtain ⟨g, vi, rfl, h1, h2⟩ := h.at i hi
  obtain ⟨so, n, c, rfl, hn⟩ := own_shape h2
  refine ⟨⟨g, 0, none⟩, so, n, c, rfl, World.block_lt_of_cell? w ⟨g, i, none⟩ h1, ?_, hn.out, (own_bytes h2).low⟩
  have e : (⟨g, 0, none⟩ : Addr).add i = ⟨g, i, none⟩ := by unfold Addr.add; split <;> simp_all
  rw [e]; exact h1
theorem RdRows.of_in {w : World} {a : Option Addr} {len cap : Nat} {rs : List (Value × List UInt8)} (h : RowsV w a len cap rs) : RdRows w (.slice a len cap) (rs.map (·.2)) := by
  obtain ⟨hl, h⟩ := h
  refine ⟨a, cap, by simp [hl], ?_, fun i hi => ?_⟩
  · rcases h with ⟨_, h, _⟩ | ⟨x, _, h, _⟩ <;> simp [hl, h]
  · have hi' : i < rs.length := by simpa using hi
    rcases h with ⟨_, h, _⟩ | ⟨x, rfl, _, _, h⟩
    · omega
    · obtain ⟨h1, h2, h3, _⟩ := h i hi'
      obtain ⟨so, c, e, _⟩ := id h3
      rw [e] at h1 h3
      exact ⟨x, so, _, c, rfl, h2, h1, by simp, by simpa using h3⟩
theorem RowsV.short {w : World} {a : Option Addr} {len cap : Nat} {rs : List (Value × List UInt8)} (h : RowsV w a len cap rs) : ∀ x ∈ rs.map (·.2), x.length ≤ 140737488351232 := by
  intro x hx
  obtain ⟨i, hi, rfl⟩ := List.getElem_of_mem hx
  have hi' : i < rs.length := by simpa using hi
  obtain ⟨hl, h⟩ := h
  rcases h with ⟨_, h, _⟩ | ⟨x, rfl, _, _, h⟩
  · omega
  · simpa using (h i hi').2.2.2
theorem RdRows.kp {w w' : World} {v : Value} {L : List (List UInt8)} (h : RdRows w v L) (hk : Kp [] w.heap.size w w') : RdRows w' v L := by
  obtain ⟨ao, cap, rfl, hc, h⟩ := h
  refine ⟨ao, cap, rfl, hc, fun i hi => ?_⟩
  obtain ⟨x, so, n, c, h1, h2, h3, h4, h5⟩ := h i hi
  have hz := hk.size
  exact ⟨x, so, n, c, h1, by omega, (hk.cell (p := x.add i) (by rw [add_block]; exact h2) (by simp)).trans h3, h4, (h5.kp hk (by simp)).low⟩
theorem total_bound {B : Nat} : ∀ {L : List (List UInt8)} {k : Nat}, (∀ x ∈ L, x.length ≤ B) → L.length ≤ k → total L ≤ k * B
  | [], k, _, _ => by simp [total]
  | x :: L, 0, _, h => by simp at h
  | x :: L, k + 1, hx, h => by
    have := total_bound (L := L) (k := k) (fun y hy => hx y (by simp [hy])) (by simpa using h)
    have := hx x (by simp)
    rw [total_cons, Nat.succ_mul]; omega
theorem RdRows.elem {w : World} {a : Option Addr} {n cap : Nat} {L : List (List UInt8)} (h : RdRows w (.slice a n cap) L) (i : Nat) (hi : i < L.length) : ∃ x so n c, a = some x ∧ x.block < w.heap.size ∧ w.cell? (x.add i) = some (.slice so n c) ∧ n = L[i].length ∧ BytesV w (fun k => k < w.heap.size) (.slice so n c) L[i] := by
  obtain ⟨ao, cap', he, _, h⟩ := h
  injection he with he _ _
  subst he
  exact h i hi
set_option maxHeartbeats 1000000 in
set_option maxRecDepth 100000 in
/-- the same rows -/
theorem lsame (v v' : Value) (L : List (List UInt8)) (w : World) (h : RdRows w v L) (h' : RdRows w v' L) (hL : L.length ≤ 9223372036854775807) :
    Calls Tryz.prog 18 #[v, v'] w fun e w' => e = .returned (.bool true) ∧ Kp [] w.heap.size w w' := by
  obtain ⟨ao, cap, rfl, hc, hr⟩ := h
  obtain ⟨ao', cap', rfl, hc', hr'⟩ := h'
  obtain ⟨m, hm⟩ : ∃ m, m = L.length := ⟨_, rfl⟩
  rw [← hm] at hL ⊢
  have HM := Lib.hid hm
  have HR := Lib.hid hr
  have HR' := Lib.hid hr'
  have q1 : ((m : Int) == (m : Int)) = true := by simp
  have q2 : ((m : Int) != (m : Int)) = false := by simp
  clear hr hr' hm
  go_enter Tryz.func18, Tryz.ntmps18
  go_wp2
  clear q1 q2
  go_loopw [5] (fun i wr => ∃ k : Nat, k ≤ m ∧ i = .int .i64 (k : Int) ∧ Hid (Kp [] w.heap.size w wr)) (fun i _ => m - (intOf i).toNat)
  case atStart => exact ⟨0, by omega, rfl, Kp.refl _ _ _⟩
  case round =>
    obtain ⟨k, hk, rfl, HI⟩ := hrel
    by_cases hlt : k < m
    · have hkL : k < L.length := by rw [← HM.out]; exact hlt
      obtain ⟨x, so, n, c, rfl, hx0, hcell0, -, hb⟩ := HR.out k hkL
      have hcell := (HI.out.cell (p := x.add k) (by rw [add_block]; exact hx0) (by simp)).trans hcell0
      obtain ⟨x', so', n', c', rfl, hx0', hcell0', -, hb'⟩ := HR'.out k hkL
      have hcell' := (HI.out.cell (p := x'.add k) (by rw [add_block]; exact hx0') (by simp)).trans hcell0'
      have cv : ∀ q, (convert 39 9 (.slice so n c)).run Tryz.prog (wr.drewN q) = .ok (.string ⟨L[k].toArray⟩) (wr.drewN q) := fun q => conv_bytes (hb.kp (HI.out.drew q) (by simp))
      have cv' : ∀ q, (convert 39 9 (.slice so' n' c')).run Tryz.prog (wr.drewN q) = .ok (.string ⟨L[k].toArray⟩) (wr.drewN q) := fun q => conv_bytes (hb'.kp (HI.out.drew q) (by simp))
      obtain ⟨z, hz⟩ : ∃ z : ByteArray, z = ⟨L[k].toArray⟩ := ⟨_, rfl⟩
      rw [← hz] at cv cv'
      clear hz hb hb' hcell0 hcell0' hx0 hx0'
      go_upto_region 6 with fail
      go_quiet (fail)
      go_wp2
      go_roundw
      case rel => exact ⟨k + 1, by omega, by go_num, HI.out.drew nq⟩
      case measure => simp [intOf]; omega
    · go_wp2
      go_ret
      exact ⟨rfl, HI.out⟩
end Go.Proofs.YtdabflkejhoghaaGreat.Hand
