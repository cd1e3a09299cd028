/- The log's law: plain laws, and what is kept of both. -/
import Derived.Below
import Derived.Deep.Draws
import Derived.Deep.AppendLies
import Derived.Maps.AppendAt
import Derived.OwnWalk
import Derived.Laws.BytesArg
import Derived.Laws.MakeOwn
import Derived.Laws.OwnMore
import Derived.Deep.OwnRows
import Derived.Tactics
import Derived.Lib.ConvBytes
import Derived.Laws.Slices
import Derived.WalkKit
import Derived.KernelRfl
import Derived.RowKit3
import Derived.Deep.LoopGhost
import Derived.Deep.QuietTactic
import Derived.BigQuiet
import Derived.WideLaws
import Derived.Deep.DeepCutAuto
import Derived.Deep.CutBlock
import Derived.Deep.RegionHeld3
import Derived.Laws.Rows
import Derived.Lib.AppendStr
import Derived.ArgAppend
import Derived.Laws.IdiomCopy
import Derived.OrdersHeld
import Derived.Laws.BitsLemmas
import Derived.RowKit
import Derived.Outline
import Derived.Maps.Own
import Derived.Maps.OwnOps
import Derived.Maps.OwnSet
import Derived.Maps.Views
import Derived.Maps.RangeWalk
import Derived.Maps.Ext
import Derived.RangeFuncOwn
import Derived.OneCell
import Derived.Deep.DeepMust
import Derived.Lib.Hide
import Derived.StillTailTactics
import Derived.Laws.AppendOwnNone
import Derived.WalkMore
import Derived.Lib.SlBytesConst
import Derived.WalkLawsBesides
import Derived.Laws.BitsAllLaws
import Derived.Test.YtdabflkejhoghaaGreatHWa
import Derived.Test.YtdabflkejhoghaaGreatWLast
import Derived.Test.YtdabflkejhoghaaGreatHTa
import Derived.Test.YtdabflkejhoghaaGreatHTd
namespace Go.Proofs.YtdabflkejhoghaaGreat.Hand
open Go Go.RowKit Go.Maps Go.WideMaps Go.Proofs.YtdabflkejhoghaaGreat.HW Go.Proofs.YtdabflkejhoghaaGreatW.PrintLast
set_option linter.unusedVariables false
set_option linter.unusedSimpArgs false
theorem app_room (d : Dk) (nm b : List UInt8) : (d.append nm b).1.room = d.room := by
  unfold Dk.append
  split <;> rfl
theorem sync_room (d : Dk) (nm : List UInt8) : (d.sync nm).1.room = d.room := by
  cases h : d.look nm with
  | none => rw [sync_none h]
  | some f => rw [sync_some h]; split <;> exact d.step_room
theorem drop_room (d : Dk) (nm : List UInt8) : (d.drop nm).1.room = d.room := by
  cases h : d.look nm with
  | none => rw [drop_none h]
  | some f => rw [drop_some h]; split <;> exact d.step_room
theorem ren_room (d : Dk) (nm tn : List UInt8) : (d.rename nm tn).1.room = d.room := by
  cases h : d.look nm with
  | none => rw [ren_none h]
  | some f =>
    cases hn : named tn with
    | false => rw [ren_bad hn]
    | true => rw [ren_some h hn]; split <;> exact d.step_room
theorem andD_room {r : Dk × Bool} {f : Dk → Dk × Bool} {n : Nat} (h : r.1.room = n) (hf : ∀ d : Dk, (f d).1.room = d.room) : (andD r f).1.room = n := by
  cases hr : r.2 with
  | false => rw [andD_false hr]; exact h
  | true => rw [andD_true hr, hf]; exact h
theorem gone_room (d : Dk) (nm : List UInt8) : (d.goneD nm).1.room = d.room := by
  unfold Dk.goneD
  split
  · exact drop_room d nm
  · rfl
theorem laid_room (d : Dk) (b nm : List UInt8) : (d.laidD b nm).1.room = d.room := by
  unfold Dk.laidD
  exact andD_room (andD_room (app_room _ _ _) (fun d => sync_room d _)) (fun d => ren_room d _ _)
theorem pack_room (d : Dk) (f : List UInt8) : (d.packD f).1.room = d.room := by
  unfold Dk.packD
  exact andD_room (andD_room (gone_room _ _) (fun d => laid_room d _ _)) (fun d => gone_room d _)
theorem lg_append_room (l : Lg) (b : List UInt8) : (l.append b).1.d.room = l.d.room := by
  unfold Lg.append Lg.failed
  have h := andD_room (r := l.d.append sLog (frameB (wrapN (l.seq + 1)) b)) (f := fun d => d.sync sLog) (app_room _ _ _) (fun d => sync_room d _)
  split
  · rfl
  · split
    · rfl
    · split
      · exact h
      · split <;> exact h
theorem lg_pack_room (l : Lg) (b : List UInt8) : (l.pack b).1.d.room = l.d.room := by
  unfold Lg.pack
  have h := pack_room l.d (frameB l.seq b)
  split
  · rfl
  · split
    · rfl
    · split
      · exact h
      · split
        · exact h
        · show (((l.d.packD (frameB l.seq b)).1.goneD sNext).1).room = _
          rw [gone_room]; exact h
theorem lg_append_err (l : Lg) (b : List UInt8) : (l.append b).2 ≤ 22 := by
  unfold Lg.append Lg.failed
  split
  · simp
  · split
    · simp
    · split
      · simp
      · split <;> simp
theorem lg_pack_err (l : Lg) (b : List UInt8) : (l.pack b).2 ≤ 22 := by
  unfold Lg.pack
  split
  · simp
  · split
    · simp
    · split
      · simp
      · split <;> simp
theorem open_room (d : Dk) : d.openD.d.room = d.room := by
  unfold Dk.openD
  split
  · rfl
  · split
    · rfl
    · split
      · have h : ∀ R n, (d.cutD R n).1.room = d.room := fun R n => by
          unfold Dk.cutD
          exact andD_room (gone_room _ _) (fun d => by split <;> first | exact laid_room d _ _ | exact drop_room d _)
        split <;> exact h _ _
      · rfl
theorem open_seq (d : Dk) : d.openD.seq < 18446744073709551616 := by
  unfold Dk.openD
  split
  · simp
  · split
    · simp
    · split
      · split
        · exact wrapN_lt _
        · simp
      · exact wrapN_lt _
theorem setD {w : World} {g : Nat} {x0 x1 x2 x3 x4 x5 x6 x7 x8 : Value} {T : TypeId} (h : w.heap[g]? = some (.cells #[x0, x1, x2, x3, x4, x5, x6, x7, x8] T)) (v2 v3 v4 v5 v6 : Value) :
    (((((w.setCell ⟨g, 2, none⟩ v2).setCell ⟨g, 3, none⟩ v3).setCell ⟨g, 4, none⟩ v4).setCell ⟨g, 5, none⟩ v5).setCell ⟨g, 6, none⟩ v6).heap[g]? = some (.cells #[x0, x1, v2, v3, v4, v5, v6, x7, x8] T) := by
  simp [World.setCell, Array.getElem?_modify, h]
theorem setD_kp (w : World) (g : Nat) (v2 v3 v4 v5 v6 : Value) : Kp [g] w.heap.size w (((((w.setCell ⟨g, 2, none⟩ v2).setCell ⟨g, 3, none⟩ v3).setCell ⟨g, 4, none⟩ v4).setCell ⟨g, 5, none⟩ v5).setCell ⟨g, 6, none⟩ v6) :=
  (((((Kp.refl [g] w.heap.size w).setCell (b := g) (.inr (by simp)) 2 none v2).setCell (b := g) (.inr (by simp)) 3 none v3).setCell (b := g) (.inr (by simp)) 4 none v4).setCell (b := g) (.inr (by simp)) 5 none v5).setCell (b := g) (.inr (by simp)) 6 none v6
theorem setL {w : World} {g : Nat} {x0 x1 x2 x3 x4 x5 x6 x7 x8 : Value} {T : TypeId} (h : w.heap[g]? = some (.cells #[x0, x1, x2, x3, x4, x5, x6, x7, x8] T)) (v2 v3 v4 v5 v6 v7 v8 : Value) :
    (((((((w.setCell ⟨g, 2, none⟩ v2).setCell ⟨g, 3, none⟩ v3).setCell ⟨g, 4, none⟩ v4).setCell ⟨g, 5, none⟩ v5).setCell ⟨g, 6, none⟩ v6).setCell ⟨g, 7, none⟩ v7).setCell ⟨g, 8, none⟩ v8).heap[g]? = some (.cells #[x0, x1, v2, v3, v4, v5, v6, v7, v8] T) := by
  simp [World.setCell, Array.getElem?_modify, h]
theorem setL_kp (w : World) (g : Nat) (v2 v3 v4 v5 v6 v7 v8 : Value) : Kp [g] w.heap.size w (((((((w.setCell ⟨g, 2, none⟩ v2).setCell ⟨g, 3, none⟩ v3).setCell ⟨g, 4, none⟩ v4).setCell ⟨g, 5, none⟩ v5).setCell ⟨g, 6, none⟩ v6).setCell ⟨g, 7, none⟩ v7).setCell ⟨g, 8, none⟩ v8) :=
  (((((((Kp.refl [g] w.heap.size w).setCell (b := g) (.inr (by simp)) 2 none v2).setCell (b := g) (.inr (by simp)) 3 none v3).setCell (b := g) (.inr (by simp)) 4 none v4).setCell (b := g) (.inr (by simp)) 5 none v5).setCell (b := g) (.inr (by simp)) 6 none v6).setCell (b := g) (.inr (by simp)) 7 none v7).setCell (b := g) (.inr (by simp)) 8 none v8
theorem set7b {w : World} {g : Nat} {x0 x1 x2 x3 x4 x5 x6 : Value} {T : TypeId} (h : w.heap[g]? = some (.cells #[x0, x1, x2, x3, x4, x5, x6] T)) (v0 v1 v2 v3 v4 v5 v6 : Value) :
    (((((((w.setCell ⟨g, 0, none⟩ v0).setCell ⟨g, 1, none⟩ v1).setCell ⟨g, 2, none⟩ v2).setCell ⟨g, 3, none⟩ v3).setCell ⟨g, 4, none⟩ v4).setCell ⟨g, 5, none⟩ v5).setCell ⟨g, 6, none⟩ v6).heap[g]? = some (.cells #[v0, v1, v2, v3, v4, v5, v6] T) := by
  simp [World.setCell, Array.getElem?_modify, h]
theorem set7b_kp (w : World) (g : Nat) (v0 v1 v2 v3 v4 v5 v6 : Value) : Kp [g] w.heap.size w (((((((w.setCell ⟨g, 0, none⟩ v0).setCell ⟨g, 1, none⟩ v1).setCell ⟨g, 2, none⟩ v2).setCell ⟨g, 3, none⟩ v3).setCell ⟨g, 4, none⟩ v4).setCell ⟨g, 5, none⟩ v5).setCell ⟨g, 6, none⟩ v6) :=
  (((((((Kp.refl [g] w.heap.size w).setCell (b := g) (.inr (by simp)) 0 none v0).setCell (b := g) (.inr (by simp)) 1 none v1).setCell (b := g) (.inr (by simp)) 2 none v2).setCell (b := g) (.inr (by simp)) 3 none v3).setCell (b := g) (.inr (by simp)) 4 none v4).setCell (b := g) (.inr (by simp)) 5 none v5).setCell (b := g) (.inr (by simp)) 6 none v6
theorem shyB {w : World} {gb p : Nat} {lp : Option Addr} {o : Option Addr} {n c : Nat} {x : Int} {y : Bool} {z : Int} {t : Bool} {q : Int} {u : Bool} (hb : w.heap[gb]? = some (.cells #[.pointer (some ⟨p, 0, none⟩), .pointer lp, .slice o n c, .int .i64 x, .bool y, .int .i64 z, .bool t, .int .u64 q, .bool u] 38 (0, 0))) : ∀ r ∈ [gb], Shy w r := by
  intro r hr cs T fr hbb
  obtain rfl : r = gb := by simpa using hr
  rw [hb] at hbb
  injection hbb with hbb
  injection hbb with h1 h2 _
  subst h1 h2
  exact ⟨by decide, noU8_B _ _ _ _ _ _ _ _ _ _ _⟩
theorem noU8_L (a : Option Addr) (q : Int) (u : Bool) : NoU8 #[.pointer a, .int .u64 q, .bool u] := noU8_of (by
  intro v hv
  simp only [List.mem_cons, List.not_mem_nil, or_false] at hv
  rcases hv with rfl | rfl | rfl <;> simp)
theorem shyL {w : World} {A : Nat → Prop} {lb p mb : Nat} {l : Lg} (h : IsLog w A lb p mb l) : ∀ r ∈ [p, mb, lb], Shy w r := by
  intro r hr
  simp only [List.mem_cons, List.not_mem_nil, or_false] at hr
  rcases hr with rfl | rfl | rfl
  · exact h.2.1.shy _ (by simp)
  · exact h.2.1.shy _ (by simp)
  · intro cs T fr hbb
    have h1 := h.1
    unfold LogAt at h1
    rw [h1] at hbb
    injection hbb with hbb
    injection hbb with e1 e2 _
    subst e1 e2
    exact ⟨by decide, noU8_L _ _ _⟩
/-- what is kept of both: the box, the disk, the log where there is one -/
structure Bl (w : World) (G : Nat) (A : Nat → Prop) (gb p mb : Nat) (lp : Option Addr) (l : Lg) : Prop where
  both : Both w A gb p mb (.pointer lp) l.d l.seq l.broken
  log : ∀ a, lp = some a → ∃ lb, a = ⟨lb, 0, none⟩ ∧ IsLog w A lb p mb l ∧ lb ≠ gb ∧ G ≤ lb
  free : ∀ k, w.heap.size ≤ k → A k
  low : G ≤ gb ∧ G ≤ p ∧ G ≤ mb
  room : l.d.room ≤ 3000
/-- behind an opening -/
theorem Bl.opened {w w' : World} {G : Nat} {A : Nat → Prop} {gb p mb : Nat} {lp : Option Addr} {d : Dk} (hA : ∀ k, w.heap.size ≤ k → A k) (hs : w.heap.size ≤ w'.heap.size) (hlow : G ≤ gb ∧ G ≤ p ∧ G ≤ mb) (hr : d.room ≤ 3000) (hp : p < w.heap.size ∧ mb < w.heap.size ∧ gb < w.heap.size) (he : lp = none ↔ d.openD.err ≠ 0)
    (hB : Both w' A gb p mb (.pointer lp) d.openD.d d.openD.seq (decide (d.openD.err ≠ 0))) (hL : ∀ a, lp = some a → ∃ lb, a = ⟨lb, 0, none⟩ ∧ LogAt w' lb p d.openD.seq false ∧ w.heap.size ≤ lb ∧ lb < w'.heap.size ∧ IsDisk w' (fun k => A k ∧ k ≠ lb) p mb d.openD.d) :
    ∃ A' l', Bl w' G A' gb p mb lp l' := by
  cases lp with
  | none => exact ⟨A, ⟨d.openD.d, d.openD.seq, decide (d.openD.err ≠ 0)⟩, hB, fun a ha => (by cases ha), fun k hk => hA k (by omega), hlow, by rw [open_room]; exact hr⟩
  | some a =>
    obtain ⟨lb, rfl, h1, h2, h3, h4⟩ := hL a rfl
    have h0 : decide (d.openD.err ≠ 0) = false := by
      have : ¬ d.openD.err ≠ 0 := fun h => by have := he.2 h; cases this
      simpa using this
    rw [h0] at hB
    refine ⟨fun k => A k ∧ k ≠ lb, ⟨d.openD.d, d.openD.seq, false⟩, ⟨h4, hB.box, fun h => hB.apart.1 h.1, hB.apart.2⟩, ?_, fun k hk => ⟨hA k (by omega), by omega⟩, hlow, by rw [open_room]; exact hr⟩
    intro a ha
    injection ha with ha
    exact ⟨lb, ha.symm, ⟨h1, h4, by omega, by omega, fun h => h.2 rfl, open_seq d⟩, by omega, by omega⟩
end Go.Proofs.YtdabflkejhoghaaGreat.Hand
