/- Drop. -/
import Derived.Below
import Derived.Deep.Draws
import Derived.Deep.AppendLies
import Derived.Maps.AppendAt
import Derived.OwnWalk
import Derived.Laws.BytesArg
import Derived.Laws.MakeOwn
import Derived.Laws.OwnMore
import Derived.Deep.OwnRows
import Derived.Tactics
import Derived.Lib.ConvBytes
import Derived.Laws.Slices
import Derived.WalkKit
import Derived.KernelRfl
import Derived.RowKit3
import Derived.Deep.LoopGhost
import Derived.Deep.QuietTactic
import Derived.BigQuiet
import Derived.WideLaws
import Derived.Deep.DeepCutAuto
import Derived.Deep.CutBlock
import Derived.Deep.RegionHeld3
import Derived.Laws.Rows
import Derived.Lib.AppendStr
import Derived.ArgAppend
import Derived.Laws.IdiomCopy
import Derived.OrdersHeld
import Derived.Laws.BitsLemmas
import Derived.RowKit
import Derived.Outline
import Derived.Maps.Own
import Derived.Maps.OwnOps
import Derived.Maps.OwnSet
import Derived.Maps.Views
import Derived.Maps.RangeWalk
import Derived.Maps.Ext
import Derived.RangeFuncOwn
import Derived.OneCell
import Derived.Deep.DeepMust
import Derived.Lib.Hide
import Derived.Test.YtdabflkejhoghaaHDg
namespace Go.Proofs.Ytdabflkejhoghaa.Hand
open Go Go.RowKit Go.Maps Go.WideMaps
set_option linter.unusedVariables false
/-- A disk whose map has turned. -/
theorem IsDisk.mapped {w w' : World} {A : Nat → Prop} {p mb n : Nat} {d d' : Dk} {gs : List G} (h : IsDisk w A p mb d) (hk : Kp [mb] w.heap.size w w') (hm : w'.ownsMap Try.prog 9 heldR mb n (entsD gs)) (hgs : d'.files = gs.map (·.1)) (hf : ∀ g ∈ gs, FileV w' A g)
    (e : d' = ⟨d'.files, d.room, d.fuse, d.dead⟩) (ho : d'.Ok) : IsDisk w' A p mb d' := by
  have hlt := h.lt
  obtain ⟨left, gs0, h1, h2, _, _, _, h6, _⟩ := h
  refine ⟨left, gs, ?_, ?_, hgs, ownsMap_ents hm, hf, h6, ho⟩
  · rw [hk.block p hlt.1 (by simpa using fun e => h6.1 e.symm), h1]
    rw [e]
  · rw [e]; exact h2
theorem IsDisk.dropped {w w' : World} {A : Nat → Prop} {p mb : Nat} {d : Dk} {gs : List G} (h : IsDisk w A p mb d) (hgs : d.files = gs.map (·.1)) (hf : ∀ g ∈ gs, FileV w A g) (nm : List UInt8) {n : Nat} (hm : w'.ownsMap Try.prog 9 heldR mb n ((entsD gs).del (.string nm))) (hk : Kp [mb] w.heap.size w w') :
    IsDisk w' A p mb (d.dropped nm) := by
  rw [del_ents] at hm
  have hmb := h.lt.2
  have hA := h
  obtain ⟨_, _, _, _, _, _, _, h6, _⟩ := hA
  refine h.mapped hk hm ?_ (fun g hg => (hf g (mem_delBy.1 hg).1).mono hk.size (fun k ha hl => ⟨ha, hk.block k hl (fun e => h6.2.2 (by simp at e; subst e; exact ha))⟩)) rfl (h.ok.dropped nm)
  show delBy F.name nm d.files = _
  rw [hgs]; exact map_delBy (nm := gname) (nm' := F.name) (fun g : G => g.1) (fun _ => rfl) nm gs
theorem kp_turned {w w' : World} {b B : Nat} (h : w.mapTurned w' b) : Kp [b] B w w' := by
  have hg := h.grown
  exact ⟨hg.os, hg.tape, hg.output, hg.size, fun k _ hn => by
    by_cases hk : k < w.heap.size
    · exact hg.block k hk (by simpa using hn)
    · obtain ⟨es, clock, es', clock', hb, rfl⟩ := h
      have : b ≠ k := fun e => hn (by simp [e])
      simp [ChangeMaps.setBlock, this]⟩
set_option maxHeartbeats 800000 in
set_option maxRecDepth 100000 in
theorem dDrop (A : Nat → Prop) (p mb : Nat) (d : Dk) (nm : List UInt8) (w : World) (h : IsDisk w A p mb d) (hl : nm.length ≤ maxLen) :
    Calls Try.prog 34 #[.pointer (some ⟨p, 0, none⟩), .string ⟨nm.toArray⟩] w fun e w' => e = .returned (.bool (d.drop nm).2) ∧ IsDisk w' A p mb (d.drop nm).1 ∧ Kp [p, mb] w.heap.size w w' := by
  cases ht : d.look nm with
  | none =>
    have hth : d.there nm = false := by unfold Dk.there; rw [ht]; rfl
    have e : d.drop nm = (d, false) := by unfold Dk.drop; rw [ht]
    rw [e]
    go_enter Try.func34, Try.ntmps34
    go_wp2_with (go_at_call 60; (with_reducible refine (dthere A p mb d nm _ h hl).mono ?_); rintro e w1 ⟨rfl, hk⟩; rw [hth])
    go_ret
    exact ⟨rfl, h.kp hk (Nat.le_refl _) (by simp), hk.mono (by simp) (Nat.le_refl _)⟩
  | some f =>
    have hth : d.there nm = true := by unfold Dk.there; rw [ht]; rfl
    cases hs : d.step.2 with
    | false =>
      have e : d.drop nm = (d.step.1, false) := by unfold Dk.drop; rw [ht]; simp [hs]
      rw [e]
      go_enter Try.func34, Try.ntmps34
      go_wp2_with (first
        | (go_at_call 60; (with_reducible refine (dthere A p mb d nm _ h hl).mono ?_); rintro e w1 ⟨rfl, hk⟩; rw [hth]; have h1 := h.kp hk (Nat.le_refl _) (by simp); have HK := Lib.hid hk; clear hk)
        | (go_at_call 61; (with_reducible refine (dstep A p mb d _ h1).mono ?_); rintro e w2 ⟨rfl, h2, hk2⟩; rw [hs]))
      go_ret
      exact ⟨rfl, h2, (HK.out.mono (by simp) (Nat.le_refl _)).trans (hk2.mono (by simp) HK.out.size)⟩
    | true =>
      have e : d.drop nm = (d.step.1.dropped nm, true) := by unfold Dk.drop; rw [ht]; simp [hs]
      rw [e]
      clear e
      go_enter Try.func34, Try.ntmps34
      go_wp2_with (first
        | (go_at_call 60; (with_reducible refine (dthere A p mb d nm _ h hl).mono ?_); rintro e w1 ⟨rfl, hk⟩; rw [hth]; have h1 := h.kp hk (Nat.le_refl _) (by simp); have HK := Lib.hid hk; clear hk)
        | (go_at_call 61; (with_reducible refine (dstep A p mb d _ h1).mono ?_); rintro e w2 ⟨rfl, h2, hk2⟩; rw [hs]; obtain ⟨left, gs, ⟨c0, _⟩, _, _, hgs, hown, hf⟩ := h2.cells; have HGS := Lib.hid hgs; have HF := Lib.hid hf; clear hgs hf)
        | (at_delete; go_must (refine wpList_delete_own _ rfl _ _ 88 9 rfl 103 law Try.underlying88 heldR mb _ _ rfl hown _ _ rfl (hkey hl) ?_; intro w3 hown3 hturn3)))
      go_ret
      exact ⟨rfl, h2.dropped HGS.out HF.out nm hown3 (kp_turned hturn3), ((HK.out.mono (by simp) (Nat.le_refl _)).trans (hk2.mono (by simp) HK.out.size)).trans ((kp_turned hturn3).mono (by simp) (Nat.le_refl _))⟩
end Go.Proofs.Ytdabflkejhoghaa.Hand
