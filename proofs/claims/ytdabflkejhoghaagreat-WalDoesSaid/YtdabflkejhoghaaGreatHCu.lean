/- wal.Pack. -/
import Derived.Below
import Derived.Deep.Draws
import Derived.Deep.AppendLies
import Derived.Maps.AppendAt
import Derived.OwnWalk
import Derived.Laws.BytesArg
import Derived.Laws.MakeOwn
import Derived.Laws.OwnMore
import Derived.Deep.OwnRows
import Derived.Tactics
import Derived.Lib.ConvBytes
import Derived.Laws.Slices
import Derived.WalkKit
import Derived.KernelRfl
import Derived.RowKit3
import Derived.Deep.LoopGhost
import Derived.Deep.QuietTactic
import Derived.BigQuiet
import Derived.WideLaws
import Derived.Deep.DeepCutAuto
import Derived.Deep.CutBlock
import Derived.Deep.RegionHeld3
import Derived.Laws.Rows
import Derived.Lib.AppendStr
import Derived.ArgAppend
import Derived.Laws.IdiomCopy
import Derived.OrdersHeld
import Derived.Laws.BitsLemmas
import Derived.RowKit
import Derived.Outline
import Derived.Maps.Own
import Derived.Maps.OwnOps
import Derived.Maps.OwnSet
import Derived.Maps.Views
import Derived.Maps.RangeWalk
import Derived.Maps.Ext
import Derived.RangeFuncOwn
import Derived.OneCell
import Derived.Deep.DeepMust
import Derived.Lib.Hide
import Derived.StillTailTactics
import Derived.Laws.AppendOwnNone
import Derived.WalkMore
import Derived.Lib.SlBytesConst
import Derived.WalkLawsBesides
import Derived.Laws.BitsAllLaws
import Derived.Test.YtdabflkejhoghaaGreatHQf
namespace Go.Proofs.YtdabflkejhoghaaGreat.Hand
open Go Go.RowKit Go.Maps Go.WideMaps
set_option linter.unusedVariables false
set_option linter.unusedSimpArgs false
theorem pack_broken {l : Lg} {b : List UInt8} (h : l.broken = true) : l.pack b = (l, 22) := by unfold Lg.pack; rw [if_pos h]
theorem pack_long {l : Lg} {b : List UInt8} (h : l.broken = false) (hb : 65536 < b.length) : l.pack b = (l, 3) := by unfold Lg.pack; rw [if_neg (by simp [h]), if_pos hb]
theorem pack_some {l : Lg} {b : List UInt8} (h : l.broken = false) (hb : b.length ≤ 65536) {r : Dk × Bool} (hr : l.d.packD (frameB l.seq b) = r) :
    l.pack b = if r.2 = true then (⟨r.1, l.seq, l.broken⟩, 0) else if r.1.dead = true then (⟨r.1, l.seq, true⟩, 22) else (⟨(r.1.goneD sNext).1, l.seq, l.broken⟩, 21) := by
  unfold Lg.pack; rw [if_neg (by simp [h]), if_neg (by omega), hr]
theorem StepOk.kp0 {w w' : World} {A : Nat → Prop} {p mb k : Nat} {caps : Array Value} {f : Dk → Dk × Bool} (h : StepOk w A p mb k caps f) (hk : Kp [] w.heap.size w w') : StepOk w' A p mb k caps f := h.kp (hk.mono (by simp) (Nat.le_refl _))
theorem pack_all {w1 W : World} {A : Nat → Prop} {p mb : Nat} {d : Dk} {f : List UInt8} {caps1 caps2 caps3 : Array Value} (hk : Kp [] w1.heap.size w1 W) (h : IsDisk w1 A p mb d)
    (s1 : StepOk W A p mb 62 caps1 (fun d => d.goneD sNext)) (s2 : StepOk W A p mb 60 caps2 (fun d => d.laidD f sSnap)) (s3 : StepOk W A p mb 62 caps3 (fun d => d.goneD sLog)) :
    Calls Tryz.prog 37 #[.slice (some ⟨W.heap.size, 0, none⟩) 3 3] (W.alloc (.cells #[.func (.func 62) #[] caps1, .func (.func 60) #[] caps2, .func (.func 62) #[] caps3] 25)) fun e w' => e = .returned (.bool (d.packD f).2) ∧ IsDisk w' A p mb (d.packD f).1 ∧ Kp [p, mb] w1.heap.size w1 w' := by
  obtain ⟨c1, c2, c3⟩ := cells3 W (.func (.func 62) #[] caps1) (.func (.func 60) #[] caps2) (.func (.func 62) #[] caps3) 25
  have ka : Kp [] W.heap.size W (W.alloc (.cells #[.func (.func 62) #[] caps1, .func (.func 60) #[] caps2, .func (.func 62) #[] caps3] 25)) := (Kp.refl _ _ _).alloc (Nat.le_refl _) _
  have hlt := h.lt
  have hz := hk.size
  have kall := hk.trans (ka.mono (by simp) hz)
  refine (wall [⟨62, caps1, fun d => d.goneD sNext⟩, ⟨60, caps2, fun d => d.laidD f sSnap⟩, ⟨62, caps3, fun d => d.goneD sLog⟩] _ ((h.kp_ge hk).kp_ge ka) ?_ ⟨by simp, by omega, by omega⟩ (by simp)).mono ?_
  · intro i hi
    match i, hi with
    | 0, _ => exact ⟨c1, s1.kp0 ka, enter1⟩
    | 1, _ => exact ⟨c2, s2.kp0 ka, enter2⟩
    | 2, _ => exact ⟨c3, s3.kp0 ka, enter1⟩
  · rintro e w' ⟨rfl, h1, h2⟩
    exact ⟨rfl, h1, (kall.mono (by simp) (Nat.le_refl _)).trans (h2.mono (by simp) kall.size)⟩
set_option maxHeartbeats 4000000 in
set_option maxRecDepth 100000 in
theorem wPack {A B : Nat → Prop} {lb p mb : Nat} {l : Lg} (w : World) (h : IsLog w A lb p mb l) (v : Value) (b : List UInt8) (hv : BytesV w B v b) (hA : ∀ k, w.heap.size ≤ k → A k) :
    Calls Tryz.prog 24 #[.pointer (some ⟨lb, 0, none⟩), v] w (ActP w A lb p mb (l.pack b)) := by
  have H := Lib.hid h
  have HV := Lib.hid hv
  have HA := Lib.hid hA
  obtain ⟨ao, cap, rfl, -, -, -⟩ := id hv
  obtain ⟨m, hm⟩ : ∃ m, m = b.length := ⟨_, rfl⟩
  rw [← hm] at HV ⊢
  have HM := Lib.hid hm
  have hsl := h.2.2.2.2.2
  unfold ActP
  have hlt := h.2.1.lt
  have HLT := Lib.hid hlt
  clear h hv hA hm hlt
  cases hb : l.broken with
  | true =>
    have HE := Lib.hid (pack_broken (b := b) hb)
    go_enter Tryz.func24, Tryz.ntmps24
    go_wp2_with fail
    refine (wSeq w H.out).mono ?_
    rintro e w1 ⟨rfl, rfl⟩
    go_wp2_with fail
    refine (wframe_broken w H.out hb _ _).mono ?_
    rintro e w1 ⟨rfl, rfl⟩
    go_wp2_with fail
    go_ret
    rw [HE.out]
    exact ⟨rfl, H.out, Kp.refl _ _ _⟩
  | false =>
    by_cases hbl : 65536 < b.length
    · have HE := Lib.hid (pack_long hb hbl)
      go_enter Tryz.func24, Tryz.ntmps24
      go_wp2_with fail
      refine (wSeq w H.out).mono ?_
      rintro e w1 ⟨rfl, rfl⟩
      go_wp2_with fail
      refine (wframe_long w H.out hb l.seq _ b HV.out hbl).mono ?_
      rintro e w1 ⟨rfl, rfl⟩
      go_wp2_with fail
      go_ret
      rw [HE.out]
      exact ⟨rfl, H.out, Kp.refl _ _ _⟩
    · have hbl' : b.length ≤ 65536 := by omega
      obtain ⟨r1, hr1⟩ : ∃ r, r = l.d.packD (frameB l.seq b) := ⟨_, rfl⟩
      have HR1 := Lib.hid hr1
      have HE : Hid (l.pack b = if r1.2 = true then (⟨r1.1, l.seq, l.broken⟩, 0) else if r1.1.dead = true then (⟨r1.1, l.seq, true⟩, 22) else (⟨(r1.1.goneD sNext).1, l.seq, l.broken⟩, 21)) := Lib.hid (pack_some hb hbl' hr1.symm)
      obtain ⟨c0, c1, c2, hf⟩ := H.out.cells
      clear hr1 hf
      go_enter Tryz.func24, Tryz.ntmps24
      go_wp2_with fail
      refine (wSeq w H.out).mono ?_
      rintro e w1 ⟨rfl, rfl⟩
      go_wp2_with fail
      refine (wframe w H.out hb l.seq _ b HV.out hbl' hsl).mono ?_
      rintro e w1 ⟨v1, rfl, h1, k1⟩
      obtain ⟨o1, n1, p1, rfl, hn1⟩ := own_shape h1
      have HB1 := Lib.hid (own_bytes h1)
      have H1 := Lib.hid (H.out.kp k1)
      have HK1 := Lib.hid k1
      have d0 := (k1.cell (p := ⟨lb, 0, none⟩) H.out.lt (by simp)).trans c0
      clear h1 k1 c0 c1 c2
      have hz1 := HK1.out.size
      have hl1 := H1.out.lt
      have hG : ∀ (nm : List UInt8) W, nm.length ≤ maxLen → Kp [] w1.heap.size w1 W → Calls Tryz.prog 38 #[.pointer (some ⟨p, 0, none⟩), .string ⟨nm.toArray⟩] W fun e w' => ∃ caps, e = .returned (.func (.func 62) #[] caps) ∧ StepOk w' A p mb 62 caps (fun d => d.goneD nm) ∧ Kp [] w1.heap.size w1 w' ∧ Kp [] W.heap.size W w' ∧ w'.cell? ⟨lb, 0, none⟩ = some (.pointer (some ⟨p, 0, none⟩)) := fun nm W hnm hk => (wgone A p mb nm W hnm (by have := HLT.out; have := hk.size; exact ⟨by omega, by omega⟩)).mono fun e w' ⟨caps, h1, h2, h3⟩ => ⟨caps, h1, h2, hk.trans (h3.mono (by simp) hk.size), h3, ((hk.trans (h3.mono (by simp) hk.size)).cell (p := ⟨lb, 0, none⟩) hl1 (by simp)).trans d0⟩
      have hL : ∀ W, Kp [] w1.heap.size w1 W → Calls Tryz.prog 36 #[.pointer (some ⟨p, 0, none⟩), .slice o1 n1 p1, .string ⟨sSnap.toArray⟩] W fun e w' => ∃ caps, e = .returned (.func (.func 60) #[] caps) ∧ StepOk w' A p mb 60 caps (fun d => d.laidD (frameB l.seq b) sSnap) ∧ Kp [] w1.heap.size w1 w' ∧ Kp [] W.heap.size W w' ∧ w'.cell? ⟨lb, 0, none⟩ = some (.pointer (some ⟨p, 0, none⟩)) := fun W hk => (wlaid A p mb sSnap (frameB l.seq b) _ (fun k => w.heap.size ≤ k) W (by decide) (by have := HLT.out; have := hk.size; exact ⟨by omega, by omega⟩) (HB1.out.kp hk (by simp)) (by have := HLT.out; exact ⟨by omega, by omega⟩) (by rw [frameB_length]; omega) (fun k hk2 => HA.out k (by have := hk.size; omega))).mono fun e w' ⟨caps, h1, h2, h3⟩ => ⟨caps, h1, h2, hk.trans (h3.mono (by simp) hk.size), h3, ((hk.trans (h3.mono (by simp) hk.size)).cell (p := ⟨lb, 0, none⟩) hl1 (by simp)).trans d0⟩
      have HG := Lib.hid hG
      have HL := Lib.hid hL
      clear hG hL
      have hDD := H1.out.2.1
      clear hb hbl hbl' hsl
      go_upto_region 4 with fail
      go_cut [35] (fun q wx => q = .bool r1.2 ∧ Hid (IsLog wx A lb p mb ⟨r1.1, l.seq, l.broken⟩ ∧ Kp [p, mb] w.heap.size w wx))
      case first =>
        go_region_with (first
          | (go_at_call 38; first
              | (refine (HG.out sNext _ (by decide) (by first | assumption | exact Kp.refl _ _ _ | exact (Kp.refl _ _ _).drew 1)).mono ?_; rintro e wa ⟨capsA, rfl, hsa, hka, hka2, hca⟩)
              | (refine (HG.out sLog _ (by decide) (by first | assumption | exact Kp.refl _ _ _ | exact (Kp.refl _ _ _).drew 1)).mono ?_; rintro e wc ⟨capsC, rfl, hsc, hkc, hkc2, hcc⟩))
          | (go_at_call 36; refine (HL.out _ (by first | assumption | exact Kp.refl _ _ _ | exact (Kp.refl _ _ _).drew 1)).mono ?_; rintro e wb ⟨capsB, rfl, hsb, hkb, hkb2, hcb⟩)
          | (go_at_call 37; refine (pack_all (w1 := w1) (d := l.d) (f := frameB l.seq b) (by assumption) hDD (by (first | assumption | exact StepOk.kp0 (by assumption) (by assumption) | exact StepOk.kp0 (StepOk.kp0 (by assumption) (by assumption)) (by assumption))) (by (first | assumption | exact StepOk.kp0 (by assumption) (by assumption) | exact StepOk.kp0 (StepOk.kp0 (by assumption) (by assumption)) (by assumption))) (by (first | assumption | exact StepOk.kp0 (by assumption) (by assumption) | exact StepOk.kp0 (StepOk.kp0 (by assumption) (by assumption)) (by assumption)))).mono ?_; rintro e w9 ⟨rfl, hd9, k9⟩))
        all_goals go_wp2
        all_goals go_meet
        all_goals
          rw [HR1.out]
          exact ⟨rfl, H1.out.kpD k9 hd9, (HK1.out.mono (L' := [p, mb]) (by simp) (Nat.le_refl _)).trans (k9.mono (by simp) HK1.out.size)⟩
      case rest =>
        obtain ⟨rfl, hcut⟩ := hcut
        have H2 := Lib.hid hcut.out.1
        have HK2 := Lib.hid hcut.out.2
        clear hcut hDD d0
        obtain ⟨d1, ok1⟩ := r1
        cases ok1 with
        | true =>
          have he : l.pack b = (⟨d1, l.seq, l.broken⟩, 0) := by have := HE.out; simpa using this
          have HE2 := Lib.hid he
          clear he
          go_wp2_with fail
          go_ret
          rw [HE2.out]
          exact ⟨rfl, H2.out, HK2.out.mono (by simp) (Nat.le_refl _)⟩
        | false =>
          go_wp2_with fail
          refine (wfailed _ H2.out).mono ?_
          rintro e w3 ⟨q3, h3, rfl, k3⟩
          have HK3 := Lib.hid ((HK2.out.mono (L' := [p, mb, lb]) (by simp) (Nat.le_refl _)).trans (k3.mono (by simp) HK2.out.size))
          rcases h3 with ⟨hd, rfl, h4⟩ | ⟨hd, rfl, h4⟩
          · have he : l.pack b = (⟨d1, l.seq, true⟩, 22) := by have := HE.out; rw [if_neg (by simp), if_pos hd] at this; exact this
            have HE2 := Lib.hid he
            have H4 := Lib.hid h4
            clear h4 k3 he hd
            go_wp2_with fail
            go_ret
            rw [HE2.out]
            exact ⟨rfl, H4.out, HK3.out⟩
          · have he : l.pack b = (⟨(d1.goneD sNext).1, l.seq, l.broken⟩, 21) := by have := HE.out; rw [if_neg (by simp), if_neg (by simp [show d1.dead = false from hd])] at this; exact this
            have HE2 := Lib.hid he
            have H4 := Lib.hid h4
            obtain ⟨e0, -, -, -⟩ := h4.cells
            have hlt4 := h4.lt
            clear h4 k3 he hd
            go_wp2_with fail
            refine (wgone A p mb sNext w3 (by decide) (by have := H4.out.2.1.lt; exact this)).mono ?_
            rintro e w5 ⟨caps5, rfl, hs5, k5⟩
            have HS5 := Lib.hid hs5
            have H5 := Lib.hid (H4.out.kp k5)
            have HK5 := Lib.hid (HK3.out.trans (k5.mono (by simp) HK3.out.size))
            have he5 : ∀ (args : Array Value) (w : World), (callFunc 62 args).run Tryz.prog w = .ok (.enter 62 args) w := enter1
            clear hs5 k5 e0
            go_wp2_with fail
            refine (HS5.out w5 d1 (Kp.refl _ _ _) H5.out.2.1).mono ?_
            rintro e w6 ⟨rfl, h6, k6⟩
            have H6 := Lib.hid (H5.out.kpD k6 h6)
            have HK6 := Lib.hid (HK5.out.trans ((k6.mono (L' := [p, mb, lb]) (by simp) (Nat.le_refl _)).mono (by simp) HK5.out.size))
            clear h6 k6
            go_wp2_with fail
            go_ret
            rw [HE2.out]
            exact ⟨rfl, H6.out, HK6.out⟩
end Go.Proofs.YtdabflkejhoghaaGreat.Hand
