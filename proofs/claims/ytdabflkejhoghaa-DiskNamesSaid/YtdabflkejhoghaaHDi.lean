/- Sync. -/
import Derived.Below
import Derived.Deep.Draws
import Derived.Deep.AppendLies
import Derived.Maps.AppendAt
import Derived.OwnWalk
import Derived.Laws.BytesArg
import Derived.Laws.MakeOwn
import Derived.Laws.OwnMore
import Derived.Deep.OwnRows
import Derived.Tactics
import Derived.Lib.ConvBytes
import Derived.Laws.Slices
import Derived.WalkKit
import Derived.KernelRfl
import Derived.RowKit3
import Derived.Deep.LoopGhost
import Derived.Deep.QuietTactic
import Derived.BigQuiet
import Derived.WideLaws
import Derived.Deep.DeepCutAuto
import Derived.Deep.CutBlock
import Derived.Deep.RegionHeld3
import Derived.Laws.Rows
import Derived.Lib.AppendStr
import Derived.ArgAppend
import Derived.Laws.IdiomCopy
import Derived.OrdersHeld
import Derived.Laws.BitsLemmas
import Derived.RowKit
import Derived.Outline
import Derived.Maps.Own
import Derived.Maps.OwnOps
import Derived.Maps.OwnSet
import Derived.Maps.Views
import Derived.Maps.RangeWalk
import Derived.Maps.Ext
import Derived.RangeFuncOwn
import Derived.OneCell
import Derived.Deep.DeepMust
import Derived.Lib.Hide
import Derived.StillTailTactics
import Derived.Test.YtdabflkejhoghaaHDh
namespace Go.Proofs.Ytdabflkejhoghaa.Hand
open Go Go.RowKit Go.Maps Go.WideMaps
set_option linter.unusedVariables false
theorem IsDisk.putted {w w' : World} {A : Nat → Prop} {p mb : Nat} {d d' : Dk} {gs : List G} (h : IsDisk w A p mb d) (hgs : d.files = gs.map (·.1)) (hf : ∀ g ∈ gs, FileV w A g) (g : G) {nm : List UInt8} {v : Value} {n : Nat} (hn : nm = g.1.name) (hv : v = g.2)
    (hm : w'.ownsMap Try.prog 9 heldR mb n ((entsD gs).put (.string nm) (.held v))) (hk : Kp [mb] w.heap.size w w') (hg : FileV w' A g)
    (e : d' = ⟨putBy F.name g.1 d.files, d.room, d.fuse, d.dead⟩) (ho : d'.Ok) : IsDisk w' A p mb d' := by
  rw [put_ents' g gs nm v hn hv] at hm
  have hA := h
  obtain ⟨_, _, _, _, _, _, _, h6, _⟩ := hA
  refine h.mapped hk hm ?_ (fun x hx => ?_) (by rw [e]) ho
  · rw [e]
    show putBy F.name g.1 d.files = _
    rw [hgs]; exact map_putBy (nm := gname) (nm' := F.name) (fun g : G => g.1) (fun _ => rfl) g gs
  · rcases mem_putBy hx with rfl | hx
    · exact hg
    · exact (hf x hx).mono hk.size (fun k ha hl => ⟨ha, hk.block k hl (fun e => h6.2.2 (by simp at e; subst e; exact ha))⟩)
theorem few_g {d : Dk} {gs : List G} (h : d.files = gs.map (·.1)) (ho : d.Ok) : gs.length < maxLen := by
  have := ho.few
  rw [h] at this
  simp at this
  unfold maxLen; omega
theorem wpList_put {w : World} {ops : Array Oper} {rest : List Oper} {o : Oper} {a : Act} {Q : Exit → Act → World → Prop} (hg : o.guard = none) (m x v : Operand) (hop : o.op = Op.mapUpdate 88 m x v) (mb n : Nat) (gs : List G) (hm : a.eval m = .map (some mb))
    (hown : w.ownsMap Try.prog 9 heldR mb n (entsD gs)) (hn : n < maxLen) (nm : List UInt8) (hx : a.eval x = .string ⟨nm.toArray⟩) (hl : nm.length ≤ maxLen) (val : Value) (hv : a.eval v = val)
    (hK : ∀ w', w'.ownsMap Try.prog 9 heldR mb (n + 1) ((entsD gs).put (.string nm) (.held val)) → Kp [mb] w.heap.size w w' → wpList Try.prog ops Q rest (a.put o.dst undef) w') : wpList Try.prog ops Q (o :: rest) a w :=
  wpList_mapUpdate_in w hg m x v 88 hop 9 103 law Try.underlying88 heldR mb n (entsD gs) hm hown hn _ val (.string nm) hx hv (hkey hl) (.held val) [] rfl (fun w' h1 h2 => hK w' h1 (kp_turned h2))
theorem IsDisk.kp_ge {w w' : World} {A : Nat → Prop} {p mb : Nat} {d : Dk} (h : IsDisk w A p mb d) (hk : Kp [] w.heap.size w w') : IsDisk w' A p mb d := h.kp hk (Nat.le_refl _) (by simp)
theorem BytesV.kp {w w' : World} {A : Nat → Prop} {v : Value} {b : List UInt8} (h : BytesV w A v b) {L : List Nat} (hk : Kp L w.heap.size w w') (hL : ∀ k ∈ L, ¬ A k) : BytesV w' A v b :=
  h.mono hk.size (fun k ha hl => ⟨ha, hk.block k hl (fun e => hL k e ha)⟩)
theorem IsDisk.apart {w : World} {A : Nat → Prop} {p mb : Nat} {d : Dk} (h : IsDisk w A p mb d) : mb ≠ p ∧ ¬ A p ∧ ¬ A mb := by
  obtain ⟨_, _, _, _, _, _, _, h6, _⟩ := h; exact h6
theorem IsDisk.files {w : World} {A : Nat → Prop} {p mb : Nat} {d : Dk} (h : IsDisk w A p mb d) {gs : List G} (hgs : d.files = gs.map (·.1)) (hown : w.ownsMap Try.prog 9 heldR mb gs.length (entsD gs)) : ∀ g ∈ gs, FileV w A g := by
  obtain ⟨_, gs', _, _, hgs', hown', hf, _, _⟩ := h
  have e : entsD gs = entsD gs' := by
    obtain ⟨es, c, hb, _, _, e1⟩ := hown
    obtain ⟨es', c', hb', _, _, e2⟩ := hown'
    rw [hb] at hb'
    cases hb'
    rw [e1, e2]
  have e2 : gs = gs' := by
    have h1 : gs.map ent = gs'.map ent := by simpa [entsD] using e
    have h3 : gs.map (·.2) = gs'.map (·.2) := by
      have := congrArg (List.map fun x : Lit × DataW Value => match x.2 with | .held v => v | _ => undef) h1
      simpa [ent, Function.comp_def] using this
    have h2 : gs.map (·.1) = gs'.map (·.1) := hgs.symm.trans hgs'
    have hl : gs.length = gs'.length := by simpa using congrArg List.length h2
    apply List.ext_getElem hl
    intro i hi hi'
    have a1 : (gs.map (·.1))[i]'(by simpa using hi) = (gs'.map (·.1))[i]'(by simpa using hi') := by simp only [h2]
    have a2 : (gs.map (·.2))[i]'(by simpa using hi) = (gs'.map (·.2))[i]'(by simpa using hi') := by simp only [h3]
    simp only [List.getElem_map] at a1 a2
    exact Prod.ext a1 a2
  rw [e2]; exact hf
set_option maxHeartbeats 800000 in
set_option maxRecDepth 100000 in
theorem dSync (A : Nat → Prop) (p mb : Nat) (d : Dk) (nm : List UInt8) (w : World) (h : IsDisk w A p mb d) (hl : nm.length ≤ maxLen) :
    Calls Try.prog 27 #[.pointer (some ⟨p, 0, none⟩), .string ⟨nm.toArray⟩] w fun e w' => e = .returned (.bool (d.sync nm).2) ∧ IsDisk w' A p mb (d.sync nm).1 ∧ Kp [p, mb] w.heap.size w w' := by
  cases ht : d.look nm with
  | none =>
    have hth : d.there nm = false := by unfold Dk.there; rw [ht]; rfl
    have e : d.sync nm = (d, false) := by unfold Dk.sync; rw [ht]
    rw [e]
    go_enter Try.func27, Try.ntmps27
    go_wp2_with (go_at_call 60; (with_reducible refine (dthere A p mb d nm _ h hl).mono ?_); rintro e w1 ⟨rfl, hk⟩; rw [hth])
    go_ret
    exact ⟨rfl, h.kp hk (Nat.le_refl _) (by simp), hk.mono (by simp) (Nat.le_refl _)⟩
  | some f =>
    have hth : d.there nm = true := by unfold Dk.there; rw [ht]; rfl
    cases hs : d.step.2 with
    | false =>
      have e : d.sync nm = (d.step.1, false) := by unfold Dk.sync; rw [ht]; simp [hs]
      rw [e]
      go_enter Try.func27, Try.ntmps27
      go_wp2_with (first
        | (go_at_call 60; (with_reducible refine (dthere A p mb d nm _ h hl).mono ?_); rintro e w1 ⟨rfl, hk⟩; rw [hth]; have h1 := h.kp hk (Nat.le_refl _) (by simp); have HK := Lib.hid hk; clear hk)
        | (go_at_call 61; (with_reducible refine (dstep A p mb d _ h1).mono ?_); rintro e w2 ⟨rfl, h2, hk2⟩; rw [hs]))
      go_ret
      exact ⟨rfl, h2, (HK.out.mono (by simp) (Nat.le_refl _)).trans (hk2.mono (by simp) HK.out.size)⟩
    | true =>
      have e : d.sync nm = (d.step.1.synced f, true) := by unfold Dk.sync; rw [ht]; simp [hs]
      have hok : (d.step.1.synced f).Ok := h.ok.step.synced (nm := nm) (by rw [d.look_step, ht])
      have hold : d.step.1.old nm = f := by unfold Dk.old; rw [d.look_step, ht]; rfl
      have hfn := (Dk.look_mem ht).2
      rw [e]
      clear e
      go_enter Try.func27, Try.ntmps27
      go_wp2_with (first
        | (go_at_call 60; (with_reducible refine (dthere A p mb d nm _ h hl).mono ?_); rintro e w1 ⟨rfl, hk⟩; rw [hth]; have h1 := h.kp hk (Nat.le_refl _) (by simp); have HK := Lib.hid hk; clear hk)
        | (go_at_call 61; (with_reducible refine (dstep A p mb d _ h1).mono ?_); rintro e w2 ⟨rfl, h2, hk2⟩; rw [hs]; obtain ⟨gs, so, sc, c0, HGS, hown, hlo, hv⟩ := h2.ready nm; rw [hold] at hlo hv; have HK2 := Lib.hid hk2; clear hk2)
        | (at_lookup; go_must (refine wpList_look rfl _ _ rfl mb _ gs rfl hown nm rfl hl _ _ hlo ?_)))
      obtain ⟨w3, hw3⟩ : ∃ w3, w3 = (w2.alloc (.cells #[.slice so f.b.length sc, .int .i64 (f.lasts : Int)] 103)).drew := ⟨_, rfl⟩
      have d0 : w3.cell? ⟨p, 0, none⟩ = some (.map (some mb)) := by rw [hw3]; exact (World.cell?_alloc_past _ _ _ h2.lt.1).trans c0
      have k0 : w3.cell? ⟨w2.heap.size, 0, none⟩ = some (.slice so f.b.length sc) := by rw [hw3]; go_simp
      have HW3 := Lib.hid hw3
      refine wp_region_still_tail 11 (by kernel_rfl) (by kernel_rfl) ?_
      simp only [List.take_succ_cons, List.take_zero, List.drop_succ_cons, List.drop_zero]
      change wpStill _ _ (World.drew _) (fun a' => wpList _ _ _ _ a' (World.drew _)) _ _
      rw [← hw3]
      clear hw3
      have hown3 : w3.ownsMap Try.prog 9 heldR mb gs.length (entsD gs) := by rw [HW3.out]; exact (hown.alloc _).drew
      have hn := few_g HGS.out h.ok.step
      repeat still_step
      refine wpStill_nil ?_
      go_wp2_with (at_mapUpdate; go_must (refine wpList_put rfl _ _ _ rfl mb _ gs rfl hown3 hn nm rfl hl (.agg #[.slice so f.b.length sc, .int .i64 (f.b.length : Int)]) rfl ?_; intro w4 hown4 hk4))
      go_ret
      have hk3 : Kp [] w2.heap.size w2 w3 := by rw [HW3.out]; exact ((Kp.refl _ _ _).alloc (Nat.le_refl _) _).drew 1
      have h3 := h2.kp_ge hk3
      have hA := h3.apart
      have hv4 : BytesV w4 A (.slice so f.b.length sc) f.b := (hv.kp hk3 (by simp)).kp hk4 (by simpa using hA.2.2)
      refine ⟨rfl, h3.putted HGS.out (h3.files HGS.out hown3) (⟨f.name, f.b, f.b.length⟩, .agg #[.slice so f.b.length sc, .int .i64 (f.b.length : Int)]) hfn.symm rfl hown4 hk4 ⟨_, rfl, hv4⟩ rfl hok, ?_⟩
      exact (((HK.out.mono (by simp) (Nat.le_refl _)).trans (HK2.out.mono (by simp) HK.out.size)).trans (hk3.mono (by simp) (Nat.le_trans HK.out.size HK2.out.size))).trans (hk4.mono (by simp) (Nat.le_trans HK.out.size (Nat.le_trans HK2.out.size hk3.size)))
end Go.Proofs.Ytdabflkejhoghaa.Hand
