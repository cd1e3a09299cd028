/- The reference's log: behind, state. -/
import Derived.Below
import Derived.Deep.Draws
import Derived.Deep.AppendLies
import Derived.Maps.AppendAt
import Derived.OwnWalk
import Derived.Laws.BytesArg
import Derived.Laws.MakeOwn
import Derived.Laws.OwnMore
import Derived.Deep.OwnRows
import Derived.Tactics
import Derived.Lib.ConvBytes
import Derived.Laws.Slices
import Derived.WalkKit
import Derived.KernelRfl
import Derived.RowKit3
import Derived.Deep.LoopGhost
import Derived.Deep.QuietTactic
import Derived.BigQuiet
import Derived.WideLaws
import Derived.Deep.DeepCutAuto
import Derived.Deep.CutBlock
import Derived.Deep.RegionHeld3
import Derived.Laws.Rows
import Derived.Lib.AppendStr
import Derived.ArgAppend
import Derived.Laws.IdiomCopy
import Derived.OrdersHeld
import Derived.Laws.BitsLemmas
import Derived.RowKit
import Derived.Outline
import Derived.Maps.Own
import Derived.Maps.OwnOps
import Derived.Maps.OwnSet
import Derived.Maps.Views
import Derived.Maps.RangeWalk
import Derived.Maps.Ext
import Derived.RangeFuncOwn
import Derived.OneCell
import Derived.Deep.DeepMust
import Derived.Lib.Hide
import Derived.StillTailTactics
import Derived.Laws.AppendOwnNone
import Derived.WalkMore
import Derived.Lib.SlBytesConst
import Derived.WalkLawsBesides
import Derived.Laws.BitsAllLaws
import Derived.Test.YtdabflkejhoghaaGreatHRh
import Derived.Test.YtdabflkejhoghaaGreatHSd
namespace Go.Proofs.YtdabflkejhoghaaGreat.Hand
open Go Go.RowKit Go.Maps Go.WideMaps
set_option linter.unusedVariables false
set_option linter.unusedSimpArgs false
/-- what is sliced off bytes, as the walk meets it -/
theorem BytesV.behind {w : World} {A : Nat → Prop} {ao : Option Addr} {m cap k : Nat} {b : List UInt8} (h : BytesV w A (.slice ao m cap) b) (hk : k ≤ b.length) :
    if cap = k then BytesV w A (.slice ao (m - k) 0) (b.drop k) else BytesV w A (.slice (Option.map (fun x => x.add k) ao) (m - k) (cap - k)) (b.drop k) := by
  have hmb : m = b.length := h.cap.2
  have hmc := h.cap.1
  by_cases h0 : b = []
  · subst h0
    simp at hmb
    have ha0 : k = 0 := by simpa using hk
    subst ha0
    subst hmb
    obtain ⟨ao', cap', he, _, _, h3⟩ := h
    injection he with he1 _ he3
    subst he1 he3
    rcases h3 with ⟨rfl, _, rfl⟩ | ⟨x, rfl, hx1, hx2⟩
    · rw [if_pos rfl]; exact BytesV.nil _ _
    · split
      · exact ⟨_, 0, rfl, by simp, by omega, .inr ⟨x, rfl, fun h => absurd rfl h, fun j hj => absurd hj (by simp)⟩⟩
      · exact ⟨_, cap, rfl, by simp, by omega, .inr ⟨x.add 0, rfl, fun h => absurd rfl h, fun j hj => absurd hj (by simp)⟩⟩
  · obtain ⟨x0, rfl, -⟩ := h.at (k := 0) (by cases b with | nil => exact absurd rfl h0 | cons => simp)
    have := h.drop k (by omega)
    by_cases hc : k = cap
    · subst hc; rw [if_pos rfl]; rw [if_pos rfl, Nat.sub_self] at this; exact this
    · rw [if_neg (fun e => hc e.symm)]; rw [if_neg hc] at this; exact this
set_option maxHeartbeats 1600000 in
set_option maxRecDepth 100000 in
/-- the reference's behind -/
theorem r14behind {A : Nat → Prop} (v : Value) (b : List UInt8) (most : Nat) (w : World) (h : BytesV w A v b) (hlm : b.length ≤ 1000000) (hs : most < 18446744073709551616) :
    Calls Tryz.prog 44 #[v, .int .u64 (most : Int)] w fun e w' => ∃ p : Nat, e = .returned (.int .i64 (p : Int)) ∧ p ≤ b.length ∧ behindB b most = b.drop p ∧ Kp [] w.heap.size w w' := by
  obtain ⟨m, hm⟩ : ∃ m, m = b.length := ⟨_, rfl⟩
  obtain ⟨ao, cap, rfl, hc1, hc2, -⟩ := id h
  rw [← hm] at h hc1 hlm ⊢
  have HB := Lib.hid h
  have HM := Lib.hid hm
  clear h hm
  go_enter Tryz.func44, Tryz.ntmps44
  go_wp2
  go_loopw [5] (fun fr wr => ∃ (k : Nat), k ≤ m ∧ fr = .int .i64 (k : Int) ∧ Hid (behindB b most = behindB (b.drop k) most) ∧ Hid (Kp [] w.heap.size w wr)) (fun fr _ => m - (intOf fr).toNat)
  case atStart => exact ⟨0, by omega, rfl, rfl, Kp.refl _ _ _⟩
  case round =>
    obtain ⟨k, hk, rfl, HE, HK⟩ := hrel
    have HV := Lib.hid ((HB.out.kp HK.out (by simp)).behind (k := k) (by rw [← HM.out]; exact hk))
    have hkc : k ≤ cap := by omega
    have hlb : (b.drop k).length ≤ 1000000 := by rw [List.length_drop, ← HM.out]; omega
    cases hn : nextB (b.drop k) with
    | none =>
      have HN := Lib.hid hn
      have HE2 : Hid (behindB b most = b.drop k) := HE.out.trans (behindB_none hn)
      clear hn
      by_cases hca : cap = k
      · rw [if_pos hca] at HV
        go_wp2_with fail
        refine (r13Next_none _ (b.drop k) wr HV.out hlb HN.out).mono ?_
        rintro e w2 ⟨rfl, k2⟩
        have HK2 := Lib.hid (HK.out.trans (k2.mono (by simp) HK.out.size))
        clear k2
        go_wp2_with fail
        go_ret
        exact ⟨k, rfl, hk, HE2.out, HK2.out⟩
      · rw [if_neg hca] at HV
        go_wp2_with fail
        refine (r13Next_none _ (b.drop k) wr HV.out hlb HN.out).mono ?_
        rintro e w2 ⟨rfl, k2⟩
        have HK2 := Lib.hid (HK.out.trans (k2.mono (by simp) HK.out.size))
        clear k2
        go_wp2_with fail
        go_ret
        exact ⟨k, rfl, hk, HE2.out, HK2.out⟩
    | some p =>
      obtain ⟨s, x⟩ := p
      have HN := Lib.hid hn
      obtain ⟨i1, i2, i3, -⟩ := nextB_inv hn
      obtain ⟨xl, hxl⟩ : ∃ xl, xl = x.length := ⟨_, rfl⟩
      rw [List.length_drop, ← HM.out] at i3
      rw [← hxl] at i1 i3
      have HXL := Lib.hid hxl
      have hca : ¬ cap = k := by omega
      rw [if_neg hca] at HV
      clear hn
      go_wp2_with fail
      refine (r13Next_some _ (b.drop k) wr HV.out hlb HN.out).mono ?_
      rintro e w2 ⟨⟨vx, rfl, hX2⟩, k2⟩
      obtain ⟨ox, cx, rfl, -, -, -⟩ := hX2
      rw [← hxl]
      have HK2 := Lib.hid (HK.out.trans (k2.mono (by simp) HK.out.size))
      clear k2 hxl
      by_cases hsq : s ≤ most
      · have HE2 : Hid (behindB b most = behindB (b.drop (k + (16 + xl))) most) := by
          show _ = _
          rw [HE.out, behindB_some HN.out hsq, List.drop_drop, HXL.out]
        have d1 : decide ((most : Int) < (s : Int)) = false := decide_eq_false (by omega)
        have d2 : decide (most < s) = false := decide_eq_false (by omega)
        go_wp2_with fail
        go_roundw
        case rel => exact ⟨k + (16 + xl), by omega, by go_num, HE2.out, HK2.out⟩
        case measure => simp [intOf]; omega
      · have HE2 : Hid (behindB b most = b.drop k) := HE.out.trans (behindB_other HN.out hsq)
        have d1 : decide ((most : Int) < (s : Int)) = true := decide_eq_true (by omega)
        have d2 : decide (most < s) = true := decide_eq_true (by omega)
        go_wp2_with fail
        go_ret
        exact ⟨k, rfl, hk, HE2.out, HK2.out⟩
set_option maxHeartbeats 1600000 in
set_option maxRecDepth 100000 in
/-- the reference's state -/
theorem r14state (d : Dk) (v : Value) (w : World) (h : IsT w v d) (hr : d.room ≤ 900000) :
    Calls Tryz.prog 43 #[v] w fun e w' => ∃ (vx : Value) (q : Nat), e = .returned (.tuple #[vx, .int .u64 (q : Int), .bool d.stateD.isSome]) ∧ q < 18446744073709551616 ∧ (∀ x s, d.stateD = some (x, s) → q = s ∧ BytesV w' (fun _ => True) vx x) ∧ Kp [] w.heap.size w w' := by
  have HH := Lib.hid h
  have hlen : (d.old sSnap).b.length ≤ 900000 := by
    have hok : d.Ok := by obtain ⟨_, _, _, _, _, _, _, h⟩ := h; exact h
    unfold Dk.old
    cases hl : d.look sSnap with
    | none => simp
    | some f => exact Nat.le_trans (used_mem (Dk.look_mem hl).1) (Nat.le_trans hok.used hr)
  have HLEN := Lib.hid hlen
  obtain ⟨ao, m, cap, left, rfl, -⟩ := h.form
  clear h hlen
  go_enter Tryz.func43, Tryz.ntmps43
  go_wp2_with fail
  have k1 : Hid (Kp [] w.heap.size w (w.alloc (.cells #[.slice ao m cap, .int .i64 (d.room : Int), .bool d.fuse.isSome, .int .i64 left, .bool d.dead] 31))) := kp1 _ _
  have hz1 : (w.alloc (.cells #[.slice ao m cap, .int .i64 (d.room : Int), .bool d.fuse.isSome, .int .i64 left, .bool d.dead] 31)).heap.size = w.heap.size + 1 := by simp
  refine (rRead d _ sSnap _ (HH.out.kp k1.out)).mono ?_
  rintro e w3 ⟨vb, rfl, hb3, k3⟩
  have K3 := Lib.hid (k1.out.trans (k3.mono (by simp) (by omega)))
  cases hth : d.there sSnap with
  | false =>
    have hlk : d.look sSnap = none := by
      unfold Dk.there at hth
      cases hl : d.look sSnap with
      | none => rfl
      | some f => rw [hl] at hth; cases hth
    have HS := Lib.hid (state_none hlk)
    clear hlk hb3 k3 hz1
    go_wp2_with fail
    go_ret3
    rw [HS.out]
    exact ⟨_, 0, rfl, by omega, fun x s e => by injection e with e; injection e with e1 e2; subst e1 e2; exact ⟨rfl, BytesV.nil _ _⟩, K3.out⟩
  | true =>
    have hlk : d.look sSnap = some (d.old sSnap) := old_some hth
    obtain ⟨f, hf⟩ : ∃ f, f = d.old sSnap := ⟨_, rfl⟩
    rw [← hf] at hlk hb3 HLEN
    have HLK := Lib.hid hlk
    have HB3 := Lib.hid hb3
    obtain ⟨ob, cb, rfl, -, -, -⟩ := id hb3
    obtain ⟨bl, hbl⟩ : ∃ bl, bl = f.b.length := ⟨_, rfl⟩
    rw [← hbl] at HB3 ⊢
    have HBL := Lib.hid hbl
    clear hlk hb3 hf hbl k3 hz1
    cases hn : nextB f.b with
    | none =>
      have HS : Hid (d.stateD = none) := by show _ = _; unfold Dk.stateD; rw [HLK.out]; simp only; rw [hn]
      have HN := Lib.hid hn
      clear hn
      go_wp2_with fail
      refine (r13Next_none _ f.b w3 HB3.out (by have := HLEN.out; omega) HN.out).mono ?_
      rintro e w4 ⟨rfl, k4⟩
      have K4 := Lib.hid (K3.out.trans (k4.mono (by simp) K3.out.size))
      clear k4
      go_wp2_with fail
      go_ret3
      rw [HS.out]
      exact ⟨_, 0, rfl, by omega, (fun x s e => by cases e), K4.out⟩
    | some q =>
      obtain ⟨s, x⟩ := q
      have HN := Lib.hid hn
      obtain ⟨i1, i2, i3, -⟩ := nextB_inv hn
      obtain ⟨xl, hxl⟩ : ∃ xl, xl = x.length := ⟨_, rfl⟩
      have HXL := Lib.hid hxl
      rw [← hxl] at i1 i3
      clear hn
      go_wp2_with fail
      refine (r13Next_some _ f.b w3 HB3.out (by have := HLEN.out; omega) HN.out).mono ?_
      rintro e w4 ⟨⟨vx, rfl, hX4⟩, k4⟩
      have HX5 : Hid (BytesV w4 (fun _ => True) vx x) := hX4.mono (Nat.le_refl _) (fun k hk hl => ⟨trivial, rfl⟩)
      obtain ⟨ox, cx, rfl, -, -, -⟩ := id hX4
      have K4 := Lib.hid (K3.out.trans (k4.mono (by simp) K3.out.size))
      rw [← hxl]
      clear k4 hX4 hxl
      by_cases hl : 16 + xl = bl
      · have HS : Hid (d.stateD = some (x, s)) := by show _ = _; unfold Dk.stateD; rw [HLK.out]; simp only; rw [HN.out]; simp only; rw [if_pos (by rw [← HXL.out, ← HBL.out]; exact hl)]
        have c1 : ((16 : Int) + (xl : Int) == (bl : Int)) = true := by simp; omega
        have c2 : decide ((16 : Int) + (xl : Int) = (bl : Int)) = true := decide_eq_true (by omega)
        go_wp2_with fail
        go_ret3
        rw [HS.out]
        exact ⟨_, s, rfl, i2, fun y t e => by injection e with e; injection e with e1 e2; subst e1 e2; exact ⟨rfl, by have := HX5.out; rw [← HXL.out] at this; exact this⟩, K4.out⟩
      · have HS : Hid (d.stateD = none) := by show _ = _; unfold Dk.stateD; rw [HLK.out]; simp only; rw [HN.out]; simp only; rw [if_neg (by rw [← HXL.out, ← HBL.out]; exact hl)]
        have c1 : ((16 : Int) + (xl : Int) == (bl : Int)) = false := by simp; omega
        have c2 : decide ((16 : Int) + (xl : Int) = (bl : Int)) = false := decide_eq_false (by omega)
        go_wp2_with fail
        go_ret3
        rw [HS.out]
        exact ⟨_, s, rfl, i2, (fun y t e => by cases e), K4.out⟩
end Go.Proofs.YtdabflkejhoghaaGreat.Hand
