/- Rename. -/
import Derived.Below
import Derived.Deep.Draws
import Derived.Deep.AppendLies
import Derived.Maps.AppendAt
import Derived.OwnWalk
import Derived.Laws.BytesArg
import Derived.Laws.MakeOwn
import Derived.Laws.OwnMore
import Derived.Deep.OwnRows
import Derived.Tactics
import Derived.Lib.ConvBytes
import Derived.Laws.Slices
import Derived.WalkKit
import Derived.KernelRfl
import Derived.RowKit3
import Derived.Deep.LoopGhost
import Derived.Deep.QuietTactic
import Derived.BigQuiet
import Derived.WideLaws
import Derived.Deep.DeepCutAuto
import Derived.Deep.CutBlock
import Derived.Deep.RegionHeld3
import Derived.Laws.Rows
import Derived.Lib.AppendStr
import Derived.ArgAppend
import Derived.Laws.IdiomCopy
import Derived.OrdersHeld
import Derived.Laws.BitsLemmas
import Derived.RowKit
import Derived.Outline
import Derived.Maps.Own
import Derived.Maps.OwnOps
import Derived.Maps.OwnSet
import Derived.Maps.Views
import Derived.Maps.RangeWalk
import Derived.Maps.Ext
import Derived.RangeFuncOwn
import Derived.OneCell
import Derived.Deep.DeepMust
import Derived.Lib.Hide
import Derived.StillTailTactics
import Derived.Test.YtdabflkejhoghaaHDi
namespace Go.Proofs.Ytdabflkejhoghaa.Hand
open Go Go.RowKit Go.Maps Go.WideMaps
set_option linter.unusedVariables false
set_option maxHeartbeats 1600000 in
set_option maxRecDepth 100000 in
theorem dRename (A : Nat → Prop) (p mb : Nat) (d : Dk) (nm tn : List UInt8) (w : World) (h : IsDisk w A p mb d) (hl : nm.length ≤ maxLen) (hlt : tn.length ≤ maxLen) :
    Calls Try.prog 35 #[.pointer (some ⟨p, 0, none⟩), .string ⟨nm.toArray⟩, .string ⟨tn.toArray⟩] w fun e w' => e = .returned (.bool (d.rename nm tn).2) ∧ IsDisk w' A p mb (d.rename nm tn).1 ∧ Kp [p, mb] w.heap.size w w' := by
  cases ht : d.look nm with
  | none =>
    have hth : d.there nm = false := by unfold Dk.there; rw [ht]; rfl
    have e : d.rename nm tn = (d, false) := by unfold Dk.rename; rw [ht]
    rw [e]
    go_enter Try.func35, Try.ntmps35
    go_wp2_with (go_at_call 60; (with_reducible refine (dthere A p mb d nm _ h hl).mono ?_); rintro e w1 ⟨rfl, hk⟩; rw [hth])
    go_ret
    exact ⟨rfl, h.kp hk (Nat.le_refl _) (by simp), hk.mono (by simp) (Nat.le_refl _)⟩
  | some f =>
    have hth : d.there nm = true := by unfold Dk.there; rw [ht]; rfl
    cases hn : named tn with
    | false =>
      have e : d.rename nm tn = (d, false) := by unfold Dk.rename; rw [ht]; simp [hn]
      rw [e]
      go_enter Try.func35, Try.ntmps35
      go_wp2_with (first
        | (go_at_call 60; (with_reducible refine (dthere A p mb d nm _ h hl).mono ?_); rintro e w1 ⟨rfl, hk⟩; rw [hth]; have h1 := h.kp hk (Nat.le_refl _) (by simp); have HK := Lib.hid hk; clear hk)
        | (go_at_call 59; (with_reducible refine (dnamed tn _ hlt).mono ?_); rintro e w2 ⟨rfl, rfl⟩; rw [hn]))
      go_ret
      exact ⟨rfl, h1, HK.out.mono (by simp) (Nat.le_refl _)⟩
    | true =>
    cases hs : d.step.2 with
    | false =>
      have e : d.rename nm tn = (d.step.1, false) := by unfold Dk.rename; rw [ht]; simp [hs, hn]
      rw [e]
      go_enter Try.func35, Try.ntmps35
      go_wp2_with (first
        | (go_at_call 60; (with_reducible refine (dthere A p mb d nm _ h hl).mono ?_); rintro e w1 ⟨rfl, hk⟩; rw [hth]; have h1 := h.kp hk (Nat.le_refl _) (by simp); have HK := Lib.hid hk; clear hk)
        | (go_at_call 59; (with_reducible refine (dnamed tn _ hlt).mono ?_); rintro e w2 ⟨rfl, rfl⟩; rw [hn])
        | (go_at_call 61; (with_reducible refine (dstep A p mb d _ h1).mono ?_); rintro e w2 ⟨rfl, h2, hk2⟩; rw [hs]))
      go_ret
      exact ⟨rfl, h2, (HK.out.mono (by simp) (Nat.le_refl _)).trans (hk2.mono (by simp) HK.out.size)⟩
    | true =>
      have e : d.rename nm tn = (d.step.1.moved f tn, true) := by unfold Dk.rename; rw [ht]; simp [hs, hn]
      have hlk : d.step.1.look nm = some f := by rw [d.look_step, ht]
      have hok : (d.step.1.moved f tn).Ok := h.ok.step.moved (fr := nm) hlk hn
      have hold : d.step.1.old nm = f := by unfold Dk.old; rw [hlk]; rfl
      have hfn := (Dk.look_mem ht).2
      rw [e]
      clear e
      go_enter Try.func35, Try.ntmps35
      go_wp2_with (first
        | (go_at_call 60; (with_reducible refine (dthere A p mb d nm _ h hl).mono ?_); rintro e w1 ⟨rfl, hk⟩; rw [hth]; have h1 := h.kp hk (Nat.le_refl _) (by simp); have HK := Lib.hid hk; clear hk)
        | (go_at_call 59; (with_reducible refine (dnamed tn _ hlt).mono ?_); rintro e w2 ⟨rfl, rfl⟩; rw [hn])
        | (go_at_call 61; (with_reducible refine (dstep A p mb d _ h1).mono ?_); rintro e w2 ⟨rfl, h2, hk2⟩; rw [hs]; obtain ⟨gs, so, sc, c0, HGS, hown, hlo, hv⟩ := h2.ready nm; rw [hold] at hlo hv; have hpl := h2.lt.1; have HK2 := Lib.hid hk2; clear hk2)
        | (at_lookup; go_must (refine wpList_look rfl _ _ rfl mb _ gs rfl hown nm rfl hl _ _ hlo ?_))
        | (at_delete; go_must (refine wpList_delete_own _ rfl _ _ 88 9 rfl 103 law Try.underlying88 heldR mb _ _ rfl (hown.alloc _) _ _ rfl (hkey hl) ?_; intro w3 hown3 hturn3)))
      have hk3 : Kp [mb] w2.heap.size w2 w3 := ((Kp.refl [mb] w2.heap.size w2).alloc (Nat.le_refl _) _).trans ((kp_turned hturn3).mono (by simp) (Nat.le_refl _))
      have hA := h2.apart
      have hsz := hk3.size
      have h3 : IsDisk w3 A p mb (d.step.1.dropped nm) := (h2.kp_ge ((Kp.refl _ _ _).alloc (Nat.le_refl _) _)).dropped HGS.out ((h2.kp_ge ((Kp.refl _ _ _).alloc (Nat.le_refl _) _)).files HGS.out (hown.alloc _)) nm hown3 (kp_turned hturn3)
      obtain ⟨w4, hw4⟩ : ∃ w4, w4 = w3.drew := ⟨_, rfl⟩
      have hb3 : w3.heap[w2.heap.size]? = some (.cells #[.slice so f.b.length sc, .int .i64 (f.lasts : Int)] 103 (0, 0)) := by
        rw [(kp_turned (B := w2.heap.size + 1) hturn3).block _ (by omega) (by simp; have := h2.lt.2; omega)]
        exact World.alloc_heap_new _ _
      have d0 : w4.cell? ⟨p, 0, none⟩ = some (.map (some mb)) := by rw [hw4]; exact (hk3.cell (p := ⟨p, 0, none⟩) hpl (by simpa using hA.1.symm)).trans c0
      have k0 : w4.cell? ⟨w2.heap.size, 0, none⟩ = some (.slice so f.b.length sc) := by rw [hw4]; exact (Lib.cell_of_heap hb3 0).trans rfl
      have k1 : w4.cell? ⟨w2.heap.size, 1, none⟩ = some (.int .i64 (f.lasts : Int)) := by rw [hw4]; exact (Lib.cell_of_heap hb3 1).trans rfl
      rw [del_ents] at hown3
      have hown4 : w4.ownsMap Try.prog 9 heldR mb (delBy gname nm gs).length (entsD (delBy gname nm gs)) := by rw [hw4]; exact (ownsMap_ents hown3).drew
      have hgs4 : (d.step.1.dropped nm).files = (delBy gname nm gs).map (·.1) := by
        show delBy F.name nm d.step.1.files = _
        rw [HGS.out]; exact map_delBy (nm := gname) (nm' := F.name) (fun g : G => g.1) (fun _ => rfl) nm gs
      have hn4 := few_g hgs4 (h.ok.step.dropped nm)
      have HGS4 := Lib.hid hgs4
      have HW4 := Lib.hid hw4
      clear hb3 hown3 hgs4 hsz
      refine wp_region_still_tail 6 (by kernel_rfl) (by kernel_rfl) ?_
      simp only [List.take_succ_cons, List.take_zero, List.drop_succ_cons, List.drop_zero]
      change wpStill _ _ (World.drew _) (fun a' => wpList _ _ _ _ a' (World.drew _)) _ _
      rw [← hw4]
      clear hw4
      repeat still_step
      refine wpStill_nil ?_
      go_wp2_with (at_mapUpdate; go_must (refine wpList_put rfl _ _ _ rfl mb _ (delBy gname nm gs) rfl hown4 hn4 tn rfl hlt (.agg #[.slice so f.b.length sc, .int .i64 (f.lasts : Int)]) rfl ?_; intro w5 hown5 hk5))
      go_ret
      have hk4 : Kp [mb] w2.heap.size w2 w4 := by rw [HW4.out]; exact hk3.drew 1
      have h4 : IsDisk w4 A p mb (d.step.1.dropped nm) := by rw [HW4.out]; exact h3.kp_ge ((Kp.refl _ _ _).drew 1)
      have hv4 : BytesV w4 A (.slice so f.b.length sc) f.b := hv.kp hk4 (by simpa using hA.2.2)
      have hv5 : BytesV w5 A (.slice so f.b.length sc) f.b := hv4.kp hk5 (by simpa using hA.2.2)
      refine ⟨rfl, h4.putted HGS4.out (h4.files HGS4.out hown4) (⟨tn, f.b, f.lasts⟩, .agg #[.slice so f.b.length sc, .int .i64 (f.lasts : Int)]) rfl rfl hown5 hk5 ⟨_, rfl, hv5⟩ (by unfold Dk.moved Dk.dropped; rw [hfn]) hok, ?_⟩
      exact (((HK.out.mono (by simp) (Nat.le_refl _)).trans (HK2.out.mono (by simp) HK.out.size)).trans (hk4.mono (by simp) (Nat.le_trans HK.out.size HK2.out.size))).trans (hk5.mono (by simp) (Nat.le_trans HK.out.size (Nat.le_trans HK2.out.size hk4.size)))
end Go.Proofs.Ytdabflkejhoghaa.Hand
