/- A disk's step. -/
import Derived.Below
import Derived.Deep.Draws
import Derived.Deep.AppendLies
import Derived.Maps.AppendAt
import Derived.OwnWalk
import Derived.Laws.BytesArg
import Derived.Laws.MakeOwn
import Derived.Laws.OwnMore
import Derived.Deep.OwnRows
import Derived.Tactics
import Derived.Lib.ConvBytes
import Derived.Laws.Slices
import Derived.WalkKit
import Derived.KernelRfl
import Derived.RowKit3
import Derived.Deep.LoopGhost
import Derived.Deep.QuietTactic
import Derived.BigQuiet
import Derived.WideLaws
import Derived.Deep.DeepCutAuto
import Derived.Deep.CutBlock
import Derived.Deep.RegionHeld3
import Derived.Laws.Rows
import Derived.Lib.AppendStr
import Derived.ArgAppend
import Derived.Laws.IdiomCopy
import Derived.OrdersHeld
import Derived.Laws.BitsLemmas
import Derived.RowKit
import Derived.Outline
import Derived.Maps.Own
import Derived.Maps.OwnOps
import Derived.Maps.OwnSet
import Derived.Maps.Views
import Derived.Maps.RangeWalk
import Derived.Maps.Ext
import Derived.RangeFuncOwn
import Derived.OneCell
import Derived.Deep.DeepMust
import Derived.Lib.Hide
import Derived.Test.YtdabflkejhoghaaHDb
namespace Go.Proofs.Ytdabflkejhoghaa.Hand
open Go Go.RowKit Go.Maps Go.WideMaps
set_option linter.unusedVariables false
theorem IsDisk.block {w w' : World} {A : Nat → Prop} {p mb : Nat} {d d' : Dk} (h : IsDisk w A p mb d) (hk : Kp [p] w.heap.size w w') {left : Int}
    (hp : w'.heap[p]? = some (.cells #[.map (some mb), .int .i64 (d'.room : Int), .bool d'.fuse.isSome, .int .i64 left, .bool d'.dead] 90 (0, 0)))
    (hl : -9223372036854775808 ≤ left ∧ left ≤ 9223372036854775807 ∧ ∀ k : Nat, d'.fuse = some k → left = k) (hf : d'.files = d.files) (ho : d'.Ok) : IsDisk w' A p mb d' := by
  have hlt := h.lt
  obtain ⟨left0, gs, h1, h2, h3, h4, h5, h6, h7⟩ := h
  exact ⟨left, gs, hp, hl, hf.trans h3, ownsMap_kept h4 (hk.block _ hlt.2 (by simpa using h6.1)), fun g hg => (h5 g hg).mono hk.size (fun k ha hl => ⟨ha, hk.block k hl (by simp; intro e; subst e; exact h6.2.1 ha)⟩), h6, ho⟩
theorem IsDisk.heap {w : World} {A : Nat → Prop} {p mb : Nat} {d : Dk} (h : IsDisk w A p mb d) : ∃ (left : Int), w.heap[p]? = some (.cells #[.map (some mb), .int .i64 (d.room : Int), .bool d.fuse.isSome, .int .i64 left, .bool d.dead] 90 (0, 0)) ∧
    (-9223372036854775808 ≤ left ∧ left ≤ 9223372036854775807 ∧ ∀ k : Nat, d.fuse = some k → left = k) := by
  obtain ⟨left, gs, h1, h2, _⟩ := h
  exact ⟨left, h1, h2⟩
theorem step_dead {d : Dk} (h : d.dead = true ∨ d.fuse = some 0) : d.step = (⟨d.files, d.room, d.fuse, true⟩, false) := by unfold Dk.step; rw [if_pos h]
theorem step_live {d : Dk} (h1 : d.dead = false) (h2 : d.fuse ≠ some 0) : d.step = (⟨d.files, d.room, d.fuse.map (· - 1), false⟩, true) := by
  unfold Dk.step; rw [if_neg (by simp [h1, h2])]
set_option maxHeartbeats 800000 in
set_option maxRecDepth 100000 in
theorem dstep (A : Nat → Prop) (p mb : Nat) (d : Dk) (w : World) (h : IsDisk w A p mb d) :
    Calls Try.prog 61 #[.pointer (some ⟨p, 0, none⟩)] w fun e w' => e = .returned (.bool d.step.2) ∧ IsDisk w' A p mb d.step.1 ∧ Kp [p] w.heap.size w w' := by
  have hstep := h.ok.step
  obtain ⟨left, hp, hl1, hl2, hl3⟩ := h.heap
  have H := Lib.hid h; have HP := Lib.hid hp
  have c2 : w.cell? ⟨p, 2, none⟩ = some (.bool d.fuse.isSome) := by rw [Lib.cell_of_heap hp]; rfl
  have c3 : w.cell? ⟨p, 3, none⟩ = some (.int .i64 left) := by rw [Lib.cell_of_heap hp]; rfl
  have c4 : w.cell? ⟨p, 4, none⟩ = some (.bool d.dead) := by rw [Lib.cell_of_heap hp]; rfl
  have f3 : w.frozen? ⟨p, 3, none⟩ = false := Lib.frozen_of_heap hp 3
  have f4 : w.frozen? ⟨p, 4, none⟩ = false := Lib.frozen_of_heap hp 4
  by_cases hd : d.dead = true ∨ d.fuse = some 0
  · rw [step_dead hd] at hstep ⊢
    have fin : ∀ w', w' = w.setCell ⟨p, 4, none⟩ (.bool true) → IsDisk w' A p mb ⟨d.files, d.room, d.fuse, true⟩ ∧ Kp [p] w.heap.size w w' := by
      rintro w' rfl
      have hk : Kp [p] w.heap.size w (w.setCell ⟨p, 4, none⟩ (.bool true)) := (Kp.refl _ _ _).setCell (.inr (by simp)) _ _ _
      exact ⟨H.out.block hk (by simp [World.setCell, Array.getElem?_modify, HP.out]) ⟨hl1, hl2, hl3⟩ rfl hstep, hk⟩
    have FIN := Lib.hid fin
    clear fin hstep h hp
    rcases Bool.eq_false_or_eq_true d.dead with h1 | h1
    · rw [h1] at c4
      clear hd hl3
      go_enter Try.func61, Try.ntmps61
      go_wp2
      go_ret
      exact ⟨rfl, FIN.out _ rfl⟩
    · have h2 : d.fuse = some 0 := hd.resolve_left (by simp [h1])
      have h3 : left = 0 := hl3 0 h2
      rw [h1] at c4
      have c2' : w.cell? ⟨p, 2, none⟩ = some (.bool true) := by rw [c2, h2]; rfl
      have c3' : w.cell? ⟨p, 3, none⟩ = some (.int .i64 0) := by rw [c3, h3]
      clear hd hl3 c2 c3 h2 h3
      go_enter Try.func61, Try.ntmps61
      go_wp2
      go_ret
      exact ⟨rfl, FIN.out _ rfl⟩
  · have h1 : d.dead = false := by cases hx : d.dead; rfl; exact absurd (Or.inl hx) hd
    have h2 : d.fuse ≠ some 0 := fun e => hd (.inr e)
    rw [step_live h1 h2] at hstep ⊢
    have fin : ∀ w' r, r = wrap64 (left - 1) → w' = w.setCell ⟨p, 3, none⟩ (.int .i64 r) → IsDisk w' A p mb ⟨d.files, d.room, d.fuse.map (· - 1), false⟩ ∧ Kp [p] w.heap.size w w' := by
      rintro w' r rfl rfl
      have hk : Kp [p] w.heap.size w (w.setCell ⟨p, 3, none⟩ (.int .i64 (wrap64 (left - 1)))) := (Kp.refl _ _ _).setCell (.inr (by simp)) _ _ _
      refine ⟨H.out.block hk (by simp [World.setCell, Array.getElem?_modify, HP.out, h1]) (left := wrap64 (left - 1)) ⟨by unfold wrap64; omega, by unfold wrap64; omega, ?_⟩ rfl hstep, hk⟩
      intro k hk
      cases hf : d.fuse with
      | none => rw [hf] at hk; cases hk
      | some j =>
        rw [hf] at hk h2
        have e := hl3 j hf
        have : j - 1 = k := by simpa using hk
        have : j ≠ 0 := fun e => h2 (by rw [e])
        unfold wrap64
        omega
    have FIN := Lib.hid fin
    clear fin hstep h hp hd
    rw [h1] at c4
    cases hf : d.fuse with
    | none =>
      rw [hf] at FIN c2
      replace c2 : w.cell? ⟨p, 2, none⟩ = some (.bool false) := c2
      clear hl3 h2 hf
      go_enter Try.func61, Try.ntmps61
      go_wp2
      go_ret
      exact ⟨rfl, FIN.out _ _ rfl rfl⟩
    | some j =>
      rw [hf] at FIN c2
      replace c2 : w.cell? ⟨p, 2, none⟩ = some (.bool true) := c2
      have hj : j ≠ 0 := fun e => h2 (by rw [hf, e])
      have e := hl3 j hf
      have hlt : ¬ left = 0 := by omega
      have hb : (left == 0) = false := by simpa using hlt
      have h0 : 0 < left := by omega
      clear hl3 h2 hf e
      go_enter Try.func61, Try.ntmps61
      go_wp2
      go_ret
      exact ⟨rfl, FIN.out _ _ (by unfold wrap64; omega) rfl⟩
end Go.Proofs.Ytdabflkejhoghaa.Hand
