/- The reference: ref13.Next. -/
import Derived.Below
import Derived.Deep.Draws
import Derived.Deep.AppendLies
import Derived.Maps.AppendAt
import Derived.OwnWalk
import Derived.Laws.BytesArg
import Derived.Laws.MakeOwn
import Derived.Laws.OwnMore
import Derived.Deep.OwnRows
import Derived.Tactics
import Derived.Lib.ConvBytes
import Derived.Laws.Slices
import Derived.WalkKit
import Derived.KernelRfl
import Derived.RowKit3
import Derived.Deep.LoopGhost
import Derived.Deep.QuietTactic
import Derived.BigQuiet
import Derived.WideLaws
import Derived.Deep.DeepCutAuto
import Derived.Deep.CutBlock
import Derived.Deep.RegionHeld3
import Derived.Laws.Rows
import Derived.Lib.AppendStr
import Derived.ArgAppend
import Derived.Laws.IdiomCopy
import Derived.OrdersHeld
import Derived.Laws.BitsLemmas
import Derived.RowKit
import Derived.Outline
import Derived.Maps.Own
import Derived.Maps.OwnOps
import Derived.Maps.OwnSet
import Derived.Maps.Views
import Derived.Maps.RangeWalk
import Derived.Maps.Ext
import Derived.RangeFuncOwn
import Derived.OneCell
import Derived.Deep.DeepMust
import Derived.Lib.Hide
import Derived.StillTailTactics
import Derived.Laws.AppendOwnNone
import Derived.WalkMore
import Derived.Lib.SlBytesConst
import Derived.WalkLawsBesides
import Derived.Laws.BitsAllLaws
import Derived.Test.YtdabflkejhoghaaGreatHRe
import Derived.Test.YtdabflkejhoghaaGreatHQd
namespace Go.Proofs.YtdabflkejhoghaaGreat.Hand
open Go Go.RowKit Go.Maps Go.WideMaps
set_option linter.unusedVariables false
set_option linter.unusedSimpArgs false
set_option maxRecDepth 100000 in
theorem r13Next_short (v : Value) (b : List UInt8) {A : Nat → Prop} (w : World) (h : BytesV w A v b) (hl : b.length < 16) :
    Calls Tryz.prog 67 #[v] w fun e w' => e = .returned (.tuple #[.int .u64 0, .slice none 0 0, .int .i64 0]) ∧ w = w' := by
  obtain ⟨ao, cap, rfl, hc1, hc2, -⟩ := h
  have hd' : decide ((b.length : Int) < 16) = true := decide_eq_true (by omega)
  have hd : decide (b.length < 16) = true := decide_eq_true (by omega)
  go_enter Tryz.func67, Tryz.ntmps67
  go_wp2
  go_ret3
  exact ⟨rfl, rfl⟩
set_option maxHeartbeats 1600000 in
set_option maxRecDepth 100000 in
theorem r13Next_far (v : Value) (b : List UInt8) {A : Nat → Prop} (w : World) (h : BytesV w A v b) (hl : 16 ≤ b.length) (hlm : b.length ≤ 140737488355328) (hn : 65536 < getN (b.take 4) 0 ∨ b.length - 16 < getN (b.take 4) 0) :
    Calls Tryz.prog 67 #[v] w fun e w' => e = .returned (.tuple #[.int .u64 0, .slice none 0 0, .int .i64 0]) ∧ w = w' := by
  obtain ⟨m, hm⟩ : ∃ m, m = b.length := ⟨_, rfl⟩
  obtain ⟨ao, cap, rfl, hc1, hc2, -⟩ := id h
  rw [← hm] at h hl hlm hn hc1 ⊢
  have HB := Lib.hid h
  have HM := Lib.hid hm
  obtain ⟨n, hnn⟩ : ∃ n, n = getN (b.take 4) 0 := ⟨_, rfl⟩
  have hn4 : n < 4294967296 := by rw [hnn]; exact getN_lt' (k := 4) (by simp; omega)
  have H4 := Lib.hid (h.take 4 (by omega))
  rw [← hnn] at hn
  have HN := Lib.hid hnn
  have hd : decide ((m : Int) < 16) = false := decide_eq_false (by omega)
  clear h hm hnn
  by_cases h6 : 65536 < n
  · have hd6 : decide (65536 < n) = true := decide_eq_true h6
    have hd6' : decide ((65536 : Int) < (n : Int)) = true := decide_eq_true (by omega)
    go_enter Tryz.func67, Tryz.ntmps67
    go_wp2_with fail
    refine (r01Get _ _ w H4.out (by simp; omega)).mono ?_
    rintro e w1 ⟨rfl, rfl⟩
    rw [← HN.out]
    go_wp2_with fail
    go_ret3
    exact ⟨rfl, rfl⟩
  · have hd6 : decide (65536 < n) = false := decide_eq_false h6
    have hd6' : decide ((65536 : Int) < (n : Int)) = false := decide_eq_false (by omega)
    have h7 : m - 16 < n := by omega
    have h8 : (m : Int) - 16 < (n : Int) := by omega
    have hd8 : decide ((m : Int) - 16 < (n : Int)) = true := decide_eq_true h8
    go_enter Tryz.func67, Tryz.ntmps67
    go_wp2_with fail
    refine (r01Get _ _ w H4.out (by simp; omega)).mono ?_
    rintro e w1 ⟨rfl, rfl⟩
    rw [← HN.out]
    go_wp2_with fail
    go_ret3
    exact ⟨rfl, rfl⟩
theorem frame_str {x y : List UInt8} : ((⟨x.toArray⟩ : ByteArray) = ⟨y.toArray⟩) ↔ x = y := by
  constructor
  · intro h; injection h with h; simpa using h
  · intro h; rw [h]
set_option maxHeartbeats 1600000 in
set_option maxRecDepth 100000 in
theorem r13Next_core (v : Value) (b : List UInt8) {A : Nat → Prop} (w : World) (h : BytesV w A v b) (hl : 16 ≤ b.length) (hlm : b.length ≤ 1000000) (hn1 : getN (b.take 4) 0 ≤ 65536) (hn2 : getN (b.take 4) 0 ≤ b.length - 16)
    (ok : Bool) (hok : ok = decide (frameB (getN ((b.drop 4).take 8) 0) ((b.drop 16).take (getN (b.take 4) 0)) = b.take (16 + getN (b.take 4) 0))) :
    Calls Tryz.prog 67 #[v] w fun e w' => (∃ vx, e = .returned (if ok = true then .tuple #[.int .u64 ((getN ((b.drop 4).take 8) 0 : Nat) : Int), vx, .int .i64 (16 + ((getN (b.take 4) 0 : Nat) : Int))] else .tuple #[.int .u64 0, .slice none 0 0, .int .i64 0]) ∧ BytesV w' A vx ((b.drop 16).take (getN (b.take 4) 0))) ∧ Kp [] w.heap.size w w' := by
  obtain ⟨m, hm⟩ : ∃ m, m = b.length := ⟨_, rfl⟩
  have hbe : b ≠ [] := by intro e; rw [e] at hl; simp at hl
  obtain ⟨ao, cap, rfl, hc1, hc2, -⟩ := id h
  rw [← hm] at h hl hlm hn2 hc1 ⊢
  obtain ⟨n, hnn⟩ : ∃ n, n = getN (b.take 4) 0 := ⟨_, rfl⟩
  rw [← hnn] at hn1 hn2 hok ⊢
  obtain ⟨a, rfl, hbp⟩ := h.part 16 (16 + n) (cap - 16) (by omega) (by omega) (by omega) (by omega) hbe
  obtain ⟨a', ha', hsp⟩ := h.part 4 12 (cap - 4) (by omega) (by omega) (by omega) (by omega) hbe
  injection ha' with ha'
  subst ha'
  rw [show 16 + n - 16 = n by omega] at hbp
  rw [show 12 - 4 = 8 by omega] at hsp
  have e4 : (a.add 4) = { block := a.block, off := a.off + 4 } := by unfold Addr.add; rfl
  rw [e4] at hsp
  obtain ⟨s, hs⟩ : ∃ s, s = getN ((b.drop 4).take 8) 0 := ⟨_, rfl⟩
  have hs64 : s < 18446744073709551616 := by rw [hs]; exact getN_lt' (k := 8) (by simp; omega)
  obtain ⟨x, hx⟩ : ∃ x, x = (b.drop 16).take n := ⟨_, rfl⟩
  have hxl : x.length = n := by rw [hx]; simp; omega
  rw [← hs, ← hx] at hok ⊢
  rw [← hx] at hbp
  have hx1 : BytesV w A (.slice (if cap = 16 then some a else some { block := a.block, off := a.off + 16 }) n (cap - 16)) x := by
    by_cases h0 : cap = 16
    · rw [if_pos h0]
      have hn0 : n = 0 := by omega
      have hx0 : x = [] := List.length_eq_zero_iff.1 (by omega)
      subst hx0
      exact ⟨_, cap - 16, by rw [hn0]; rfl, by simp, by omega, .inr ⟨a, rfl, fun h => absurd rfl h, fun j hj => absurd hj (by simp)⟩⟩
    · rw [if_neg h0]
      have e : (a.add 16) = { block := a.block, off := a.off + 16 } := by unfold Addr.add; rfl
      rw [e] at hbp; exact hbp
  obtain ⟨bo, hbo⟩ : ∃ bo, bo = if cap = 16 then some a else some ({ block := a.block, off := a.off + 16 } : Addr) := ⟨_, rfl⟩
  rw [← hbo] at hx1
  have HBO := Lib.hid hbo
  have H4 := Lib.hid (h.take 4 (by omega))
  have HS := Lib.hid hsp
  have HSN := Lib.hid hs
  have HX := Lib.hid hx1
  have hx65 : x.length ≤ 65536 := by omega
  have HXL := Lib.hid hxl
  have HXE := Lib.hid hx
  have HP := Lib.hid (h.take (16 + n) (by omega))
  have HM := Lib.hid hm
  have HN := Lib.hid hnn
  have HOK := Lib.hid hok
  have hd : decide ((m : Int) < 16) = false := decide_eq_false (by omega)
  have hd6 : decide (65536 < n) = false := decide_eq_false (by omega)
  have hd6' : decide ((65536 : Int) < (n : Int)) = false := decide_eq_false (by omega)
  have hn3 : ¬ ((m : Int) - 16 < (n : Int)) := by omega
  have hd7 : decide ((m : Int) - 16 < (n : Int)) = false := decide_eq_false hn3
  clear h hm hnn hs hok hbp hsp hbe hxl hx1 hbo
  go_enter Tryz.func67, Tryz.ntmps67
  go_wp2_with fail
  refine (r01Get _ _ w H4.out (by simp; omega)).mono ?_
  rintro e w1 ⟨rfl, rfl⟩
  rw [← HN.out]
  go_wp2_with fail
  refine (r01Get _ _ w HS.out (by simp; omega)).mono ?_
  rintro e w1 ⟨rfl, rfl⟩
  rw [← HSN.out]
  go_upto_region 8 with fail
  rw [show 16 + n - 16 = n by omega, ← HBO.out]
  go_wp2_with fail
  refine (r13Frame _ s x w HX.out hx65 hs64).mono ?_
  rintro e w4 ⟨vf, rfl, hF, k4⟩
  have HK4 := Lib.hid k4
  have HX4 := Lib.hid (HX.out.kp k4 (by simp))
  have cv1 : ∀ q, (convert 39 9 vf).run Tryz.prog (w4.drewN q) = .ok (.string ⟨(frameB s x).toArray⟩) (w4.drewN q) := fun q => conv_bytes ((own_bytes hF).kp ((Kp.refl [] _ _).drew q) (by simp))
  have cv2 : ∀ q, (convert 39 9 (.slice (some a) (16 + n) cap)).run Tryz.prog (w4.drewN q) = .ok (.string ⟨(b.take (16 + n)).toArray⟩) (w4.drewN q) := fun q => conv_bytes (HP.out.kp (k4.drew q) (by simp))
  obtain ⟨z1, hz1⟩ : ∃ z1 : ByteArray, z1 = ⟨(frameB s x).toArray⟩ := ⟨_, rfl⟩
  obtain ⟨z2, hz2⟩ : ∃ z2 : ByteArray, z2 = ⟨(b.take (16 + n)).toArray⟩ := ⟨_, rfl⟩
  have hzz : ok = decide (z1 = z2) := by rw [HOK.out, hz1, hz2]; simp only [frame_str]
  obtain ⟨o3, n3, p3, rfl, hn3'⟩ := own_shape hF
  rw [← hz1] at cv1
  rw [← hz2] at cv2
  have HZZ := Lib.hid hzz
  have hzl : ok = decide (z1.toList = z2.toList) := by
    have m1 : z1.toList = frameB s x := by rw [hz1]; simp
    have m2 : z2.toList = b.take (16 + n) := by rw [hz2]; simp
    rw [HOK.out, m1, m2]
  have HZL := Lib.hid hzl
  clear hzl
  have hnb : 16 + n ≤ cap := by omega
  clear hF k4 hz1 hz2 hzz hn3' hd hd6 hd6' hd7 hn3
  cases ok with
  | true =>
    have e : z1 = z2 := of_decide_eq_true HZZ.out.symm
    subst e
    go_upto_region 9 with fail
    go_quiet (fail)
    go_wp2
    go_ret3
    exact ⟨⟨Value.slice bo n (cap - 16), rfl, by rw [← HXE.out]; exact HX4.out.kp ((Kp.refl [] _ _).drew _) (by simp)⟩, HK4.out.drew _⟩
  | false =>
    have e : ¬ z1 = z2 := of_decide_eq_false HZZ.out.symm
    have e0 : ¬ z1.toList = z2.toList := of_decide_eq_false HZL.out.symm
    have e1 : (z1.toList == z2.toList) = false := by simpa using e0
    clear e e0
    go_upto_region 9 with fail
    go_quiet (fail)
    go_wp2
    go_ret3
    exact ⟨⟨rfl, Value.slice bo n (cap - 16), by rw [← HXE.out]; exact HX4.out.kp ((Kp.refl [] _ _).drew _) (by simp)⟩, HK4.out.drew _⟩
theorem r13Next_none (v : Value) (b : List UInt8) {A : Nat → Prop} (w : World) (h : BytesV w A v b) (hlm : b.length ≤ 1000000) (hn : nextB b = none) :
    Calls Tryz.prog 67 #[v] w fun e w' => e = .returned (.tuple #[.int .u64 0, .slice none 0 0, .int .i64 0]) ∧ Kp [] w.heap.size w w' := by
  by_cases h16 : b.length < 16
  · exact (r13Next_short v b w h h16).mono fun e w' ⟨he, hw⟩ => ⟨he, by subst hw; exact Kp.refl _ _ _⟩
  · by_cases h1 : 65536 < getN (b.take 4) 0 ∨ b.length - 16 < getN (b.take 4) 0
    · exact (r13Next_far v b w h (by omega) (by omega) h1).mono fun e w' ⟨he, hw⟩ => ⟨he, by subst hw; exact Kp.refl _ _ _⟩
    · refine (r13Next_core v b w h (by omega) hlm (by omega) (by omega) false ?_).mono ?_
      · symm
        apply decide_eq_false
        intro e
        have hb : b = frameB (getN ((b.drop 4).take 8) 0) ((b.drop 16).take (getN (b.take 4) 0)) ++ b.drop (16 + getN (b.take 4) 0) := by rw [e, List.take_append_drop]
        have := nextB_frame (getN ((b.drop 4).take 8) 0) ((b.drop 16).take (getN (b.take 4) 0)) (b.drop (16 + getN (b.take 4) 0)) (getN_lt' (k := 8) (by simp; omega)) (by simp; omega)
        rw [← hb, hn] at this
        cases this
      · rintro e w' ⟨⟨vx, he, _⟩, hk⟩
        exact ⟨by simpa using he, hk⟩
theorem r13Next_some (v : Value) (b : List UInt8) {A : Nat → Prop} (w : World) (h : BytesV w A v b) (hlm : b.length ≤ 1000000) {s : Nat} {x : List UInt8} (hn : nextB b = some (s, x)) :
    Calls Tryz.prog 67 #[v] w fun e w' => (∃ vx, e = .returned (.tuple #[.int .u64 (s : Int), vx, .int .i64 (16 + (x.length : Int))]) ∧ BytesV w' A vx x) ∧ Kp [] w.heap.size w w' := by
  obtain ⟨i1, i2, i3, i4⟩ := nextB_inv hn
  unfold nextB at hn
  by_cases h16 : b.length < 16
  · rw [if_pos h16] at hn; cases hn
  rw [if_neg h16] at hn
  by_cases h1 : 65536 < getN (b.take 4) 0
  · rw [if_pos h1] at hn; cases hn
  rw [if_neg h1] at hn
  by_cases h2 : b.length - 16 < getN (b.take 4) 0
  · rw [if_pos h2] at hn; cases hn
  rw [if_neg h2] at hn
  by_cases h3 : sumN (b.take 12 ++ (b.drop 16).take (getN (b.take 4) 0)) = getN ((b.take 16).drop 12) 0
  case neg => rw [if_neg h3] at hn; cases hn
  rw [if_pos h3] at hn
  injection hn with hn
  injection hn with hs hx
  have hs' : getN ((b.drop 4).take 8) 0 = s := by rw [← hs, List.drop_take]
  have hxl : x.length = getN (b.take 4) 0 := by rw [← hx]; simp; omega
  refine (r13Next_core v b w h (by omega) hlm (by omega) (by omega) true ?_).mono ?_
  · symm
    apply decide_eq_true
    rw [hs', hx, ← hxl, i4]
  · rintro e w' ⟨⟨vx, he, hb⟩, hk⟩
    rw [hs', ← hxl] at he
    rw [hx] at hb
    exact ⟨⟨vx, by simpa using he, hb⟩, hk⟩
end Go.Proofs.YtdabflkejhoghaaGreat.Hand
