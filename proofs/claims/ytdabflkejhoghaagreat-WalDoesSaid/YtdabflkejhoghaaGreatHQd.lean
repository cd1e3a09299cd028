/- Next, the log's closures, behind, state. -/
import Derived.Below
import Derived.Deep.Draws
import Derived.Deep.AppendLies
import Derived.Maps.AppendAt
import Derived.OwnWalk
import Derived.Laws.BytesArg
import Derived.Laws.MakeOwn
import Derived.Laws.OwnMore
import Derived.Deep.OwnRows
import Derived.Tactics
import Derived.Lib.ConvBytes
import Derived.Laws.Slices
import Derived.WalkKit
import Derived.KernelRfl
import Derived.RowKit3
import Derived.Deep.LoopGhost
import Derived.Deep.QuietTactic
import Derived.BigQuiet
import Derived.WideLaws
import Derived.Deep.DeepCutAuto
import Derived.Deep.CutBlock
import Derived.Deep.RegionHeld3
import Derived.Laws.Rows
import Derived.Lib.AppendStr
import Derived.ArgAppend
import Derived.Laws.IdiomCopy
import Derived.OrdersHeld
import Derived.Laws.BitsLemmas
import Derived.RowKit
import Derived.Outline
import Derived.Maps.Own
import Derived.Maps.OwnOps
import Derived.Maps.OwnSet
import Derived.Maps.Views
import Derived.Maps.RangeWalk
import Derived.Maps.Ext
import Derived.RangeFuncOwn
import Derived.OneCell
import Derived.Deep.DeepMust
import Derived.Lib.Hide
import Derived.StillTailTactics
import Derived.Laws.AppendOwnNone
import Derived.WalkMore
import Derived.Lib.SlBytesConst
import Derived.WalkLawsBesides
import Derived.Laws.BitsAllLaws
import Derived.Test.YtdabflkejhoghaaGreatHQc
import Derived.Test.YtdabflkejhoghaaGreatHQa
namespace Go.Proofs.YtdabflkejhoghaaGreat.Hand
open Go Go.RowKit Go.Maps Go.WideMaps
set_option linter.unusedVariables false
set_option linter.unusedSimpArgs false
theorem next_lt16 {b : List UInt8} (h : b.length < 16) : nextB b = none := by unfold nextB; rw [if_pos h]
set_option maxRecDepth 100000 in
theorem cNext_short (v : Value) (b : List UInt8) {A : Nat → Prop} (w : World) (h : BytesV w A v b) (hl : b.length < 16) :
    Calls Tryz.prog 57 #[v] w fun e w' => e = .returned (.tuple #[.int .u64 0, .slice none 0 0, .int .i64 0]) ∧ w = w' := by
  obtain ⟨ao, cap, rfl, hc1, hc2, -⟩ := h
  have hd' : decide ((b.length : Int) < 16) = true := decide_eq_true (by omega)
  have hd : decide (b.length < 16) = true := decide_eq_true (by omega)
  go_enter Tryz.func57, Tryz.ntmps57
  go_wp2
  go_ret3
  exact ⟨rfl, rfl⟩
set_option maxHeartbeats 1600000 in
set_option maxRecDepth 100000 in
theorem cNext_far (v : Value) (b : List UInt8) {A : Nat → Prop} (w : World) (h : BytesV w A v b) (hl : 16 ≤ b.length) (hlm : b.length ≤ 140737488355328) (hn : 65536 < getN (b.take 4) 0 ∨ b.length - 16 < getN (b.take 4) 0) :
    Calls Tryz.prog 57 #[v] w fun e w' => e = .returned (.tuple #[.int .u64 0, .slice none 0 0, .int .i64 0]) ∧ w = w' := by
  obtain ⟨m, hm⟩ : ∃ m, m = b.length := ⟨_, rfl⟩
  obtain ⟨ao, cap, rfl, hc1, hc2, -⟩ := id h
  rw [← hm] at h hl hlm hn hc1 ⊢
  have HB := Lib.hid h
  have HM := Lib.hid hm
  obtain ⟨n, hnn⟩ : ∃ n, n = getN (b.take 4) 0 := ⟨_, rfl⟩
  have hn4 : n < 4294967296 := by rw [hnn]; exact getN_lt' (k := 4) (by simp; omega)
  have H4 := Lib.hid (h.take 4 (by omega))
  rw [← hnn] at hn
  have HN := Lib.hid hnn
  have hd : decide ((m : Int) < 16) = false := decide_eq_false (by omega)
  clear h hm hnn
  by_cases h6 : 65536 < n
  · have hd6 : decide (65536 < n) = true := decide_eq_true h6
    have hd6' : decide ((65536 : Int) < (n : Int)) = true := decide_eq_true (by omega)
    go_enter Tryz.func57, Tryz.ntmps57
    go_wp2_with fail
    refine (nGet _ _ w H4.out (by simp; omega)).mono ?_
    rintro e w1 ⟨rfl, rfl⟩
    rw [← HN.out]
    go_wp2_with fail
    go_ret3
    exact ⟨rfl, rfl⟩
  · have hd6 : decide (65536 < n) = false := decide_eq_false h6
    have hd6' : decide ((65536 : Int) < (n : Int)) = false := decide_eq_false (by omega)
    have h7 : m - 16 < n := by omega
    have h8 : (m : Int) - 16 < (n : Int) := by omega
    have hd8 : decide ((m : Int) - 16 < (n : Int)) = true := decide_eq_true h8
    go_enter Tryz.func57, Tryz.ntmps57
    go_wp2_with fail
    refine (nGet _ _ w H4.out (by simp; omega)).mono ?_
    rintro e w1 ⟨rfl, rfl⟩
    rw [← HN.out]
    go_wp2_with fail
    go_ret3
    exact ⟨rfl, rfl⟩
theorem add_add' (a : Addr) (i j : Nat) : (a.add i).add j = a.add (i + j) := by
  unfold Addr.add
  by_cases hi : i = 0
  · subst hi; simp
  · by_cases hj : j = 0
    · subst hj; simp [hi]
    · simp [hi, hj, Nat.add_assoc]
/-- a part of bytes -/
theorem BytesV.part {w : World} {A : Nat → Prop} {ao : Option Addr} {m cap : Nat} {b : List UInt8} (h : BytesV w A (.slice ao m cap) b) (i j c : Nat) (hij : i ≤ j) (hj : j ≤ b.length) (hc : j - i ≤ c) (hc2 : c ≤ 9223372036854775807) (hi : b ≠ []) :
    ∃ a, ao = some a ∧ BytesV w A (.slice (some (a.add i)) (j - i) c) ((b.drop i).take (j - i)) := by
  obtain ⟨ao', cap', e, h1, h2, h3⟩ := h
  obtain ⟨rfl, rfl, rfl⟩ : ao = ao' ∧ m = b.length ∧ cap = cap' := by simpa using e
  rcases h3 with ⟨_, h, _⟩ | ⟨a, rfl, ha, hx⟩
  · exact absurd h hi
  · have hl : ((b.drop i).take (j - i)).length = j - i := by simp; omega
    have hsp : ∀ k, a.add k = a.add k := fun _ => rfl
    refine ⟨a, rfl, some (a.add i), c, by rw [hl], by omega, hc2, .inr ⟨_, rfl, fun _ => by rw [add_block]; exact ha hi, fun k hk => ?_⟩⟩
    have hk2 : k < j - i := by rw [hl] at hk; exact hk
    rw [List.getElem_take, List.getElem_drop]
    have := hx (i + k) (by omega)
    rwa [← add_add' a i k] at this
/-- what Next's two callees answer, in whatever world behind w -/
theorem next_sum {w : World} {x y : Value} {b1 b2 : List UInt8} {A : Nat → Prop} (h1 : BytesV w A x b1) (h2 : BytesV w A y b2) : Calls Tryz.prog 80 #[.slice (some ⟨w.heap.size, 0, none⟩) 2 2] (w.alloc (.cells #[x, y] 39)).drew fun e w' => e = .returned (.int .u32 ((sumN (b1 ++ b2) : Nat) : Int)) ∧ Kp [] w.heap.size w w' := by
  have hc := cells2 w x y 39
  have hk : Kp [] w.heap.size w (w.alloc (.cells #[x, y] 39)).drew := ((Kp.refl _ _ _).alloc (Nat.le_refl _) _).drew 1
  have hp : Pieces (w.alloc (.cells #[x, y] 39)).drew w.heap.size [(x, b1), (y, b2)] := pieces2 hc.1 hc.2 (h1.kp hk (by simp)) (h2.kp hk (by simp))
  refine (csum [(x, b1), (y, b2)] w.heap.size _ (by simp) (by simp [World.drew]) hp).mono ?_
  rintro e w' ⟨rfl, k⟩
  exact ⟨by simp [catP], hk.trans (k.mono (by simp) (by simp [World.drew]))⟩
set_option maxHeartbeats 1600000 in
set_option maxRecDepth 100000 in
theorem cNext_bad (v : Value) (b : List UInt8) {A : Nat → Prop} (w : World) (h : BytesV w A v b) (hl : 16 ≤ b.length) (hlm : b.length ≤ 140737488355328) (hn1 : getN (b.take 4) 0 ≤ 65536) (hn2 : getN (b.take 4) 0 ≤ b.length - 16)
    (hsum : sumN (b.take 12 ++ (b.drop 16).take (getN (b.take 4) 0)) ≠ getN ((b.take 16).drop 12) 0) :
    Calls Tryz.prog 57 #[v] w fun e w' => e = .returned (.tuple #[.int .u64 0, .slice none 0 0, .int .i64 0]) ∧ Kp [] w.heap.size w w' := by
  obtain ⟨m, hm⟩ : ∃ m, m = b.length := ⟨_, rfl⟩
  have hbe : b ≠ [] := by intro e; rw [e] at hl; simp at hl
  obtain ⟨ao, cap, rfl, hc1, hc2, -⟩ := id h
  rw [← hm] at h hl hlm hn2 hc1 ⊢
  obtain ⟨n, hnn⟩ : ∃ n, n = getN (b.take 4) 0 := ⟨_, rfl⟩
  rw [← hnn] at hn1 hn2 hsum
  obtain ⟨a, rfl, hbp⟩ := h.part 16 (16 + n) n (by omega) (by omega) (by omega) (by omega) hbe
  have hx1 : BytesV w A (.slice (if 16 + n = 16 then some a else some { block := a.block, off := a.off + 16 }) n n) ((b.drop 16).take n) := by
    rw [show 16 + n - 16 = n by omega] at hbp
    by_cases h0 : n = 0
    · rw [if_pos (by omega), h0, List.take_zero]
      exact ⟨_, 0, rfl, by simp, by omega, .inr ⟨a, rfl, fun h => absurd rfl h, fun j hj => absurd hj (by simp)⟩⟩
    · rw [if_neg (by omega)]
      have e : (a.add 16) = { block := a.block, off := a.off + 16 } := by unfold Addr.add; rfl
      rw [e] at hbp; exact hbp
  have hx2 : BytesV w A (.slice (some { block := a.block, off := a.off + 12 }) 4 (cap - 12)) ((b.take 16).drop 12) := by
    obtain ⟨a', ha', h'⟩ := h.part 12 16 (cap - 12) (by omega) (by omega) (by omega) (by omega) hbe
    injection ha' with ha'
    subst ha'
    have e : (a.add 12) = { block := a.block, off := a.off + 12 } := by unfold Addr.add; rfl
    rw [e] at h'
    have e2 : (b.take 16).drop 12 = (b.drop 12).take 4 := by rw [List.drop_take]
    rw [e2]; exact h'
  obtain ⟨bo, hbo⟩ : ∃ bo, bo = if 16 + n = 16 then some a else some ({ block := a.block, off := a.off + 16 } : Addr) := ⟨_, rfl⟩
  rw [← hbo] at hx1
  have HBO := Lib.hid hbo
  have h12 := h.take 12 (by omega)
  have hS0 := next_sum h12 hx1
  have HG0 : ∀ W, Kp [] w.heap.size w W → Calls Tryz.prog 79 #[.slice (some { block := a.block, off := a.off + 12 }) 4 (cap - 12)] W fun e w' => e = .returned (.int .u64 ((getN ((b.take 16).drop 12) 0 : Nat) : Int)) ∧ W = w' := fun W hk => nGet _ _ W (hx2.kp hk (by simp)) (by simp; omega)
  obtain ⟨s, hs⟩ : ∃ s, s = sumN (b.take 12 ++ (b.drop 16).take n) := ⟨_, rfl⟩
  obtain ⟨z, hz⟩ : ∃ z, z = getN ((b.take 16).drop 12) 0 := ⟨_, rfl⟩
  rw [← hs] at hS0 hsum
  rw [← hz] at HG0 hsum
  have HS := Lib.hid hS0
  have HG := Lib.hid HG0
  have H4 := Lib.hid (h.take 4 (by omega))
  have HM := Lib.hid hm
  have HN := Lib.hid hnn
  have hsl : s < 4294967296 := by rw [hs]; exact sumN_lt _
  have hw : IntKind.u64.wrap (s : Int) = (s : Int) := by rw [IntKind.wrap_u64]; omega
  have hq1 : ((s : Int) == (z : Int)) = false := by simp; omega
  have hq2 : ((s : Int) != (z : Int)) = true := by simp; omega
  have hd : decide ((m : Int) < 16) = false := decide_eq_false (by omega)
  have hd6 : decide (65536 < n) = false := decide_eq_false (by omega)
  have hd6' : decide ((65536 : Int) < (n : Int)) = false := decide_eq_false (by omega)
  have hn3 : (n : Int) ≤ (m : Int) - 16 := by omega
  clear h hm hnn hs hz hsum hbp hbe hx1 hx2 h12 hS0 HG0 hbo
  go_enter Tryz.func57, Tryz.ntmps57
  go_wp2_with fail
  refine (nGet _ _ w H4.out (by simp; omega)).mono ?_
  rintro e w1 ⟨rfl, rfl⟩
  rw [← HN.out]
  clear hd
  go_upto_region 8 with fail
  rw [show 16 + n - 16 = n by omega, ← HBO.out]
  go_region_with (first | (go_at_call 80; refine HS.out.mono ?_; rintro e w6 ⟨rfl, k6⟩) | (go_at_call 79; refine (HG.out _ (by first | assumption | exact Kp.refl _ _ _ | exact (Kp.refl _ _ _).drew 1 | exact ((Kp.refl _ _ _).alloc (Nat.le_refl _) _).drew 1)).mono ?_; rintro e w7 ⟨rfl, rfl⟩))
  all_goals (go_wp2_with fail)
  all_goals go_ret3
  all_goals exact ⟨rfl, by assumption⟩
/-- what crc.Next answers where a frame is -/
def NextP (w : World) (s : Nat) (x : List UInt8) (e : Ending) (w' : World) : Prop := ∃ v, e = .returned (.tuple #[.int .u64 (s : Int), v, .int .i64 (16 + (x.length : Int))]) ∧ w'.ownsRow w.heap.size 5 1 v x.length (bcells x) ∧ Kp [] w.heap.size w w'
set_option maxHeartbeats 1600000 in
set_option maxRecDepth 100000 in
theorem cNext_good (v : Value) (b : List UInt8) {A : Nat → Prop} (w : World) (h : BytesV w A v b) (hl : 16 ≤ b.length) (hlm : b.length ≤ 140737488355328) (hn1 : getN (b.take 4) 0 ≤ 65536) (hn2 : getN (b.take 4) 0 ≤ b.length - 16)
    (hsum : sumN (b.take 12 ++ (b.drop 16).take (getN (b.take 4) 0)) = getN ((b.take 16).drop 12) 0) :
    Calls Tryz.prog 57 #[v] w (NextP w (getN ((b.take 12).drop 4) 0) ((b.drop 16).take (getN (b.take 4) 0))) := by
  obtain ⟨m, hm⟩ : ∃ m, m = b.length := ⟨_, rfl⟩
  have hbe : b ≠ [] := by intro e; rw [e] at hl; simp at hl
  obtain ⟨ao, cap, rfl, hc1, hc2, -⟩ := id h
  rw [← hm] at h hl hlm hn2 hc1 ⊢
  obtain ⟨n, hnn⟩ : ∃ n, n = getN (b.take 4) 0 := ⟨_, rfl⟩
  rw [← hnn] at hn1 hn2 hsum ⊢
  obtain ⟨x, hx⟩ : ∃ x, x = (b.drop 16).take n := ⟨_, rfl⟩
  have hxl : x.length = n := by rw [hx]; simp; omega
  obtain ⟨a, rfl, hbp⟩ := h.part 16 (16 + n) n (by omega) (by omega) (by omega) (by omega) hbe
  have hx1 : BytesV w A (.slice (if 16 + n = 16 then some a else some { block := a.block, off := a.off + 16 }) n n) ((b.drop 16).take n) := by
    rw [show 16 + n - 16 = n by omega] at hbp
    by_cases h0 : n = 0
    · rw [if_pos (by omega), h0, List.take_zero]
      exact ⟨_, 0, rfl, by simp, by omega, .inr ⟨a, rfl, fun h => absurd rfl h, fun j hj => absurd hj (by simp)⟩⟩
    · rw [if_neg (by omega)]
      have e : (a.add 16) = { block := a.block, off := a.off + 16 } := by unfold Addr.add; rfl
      rw [e] at hbp; exact hbp
  have hx2 : BytesV w A (.slice (some { block := a.block, off := a.off + 12 }) 4 (cap - 12)) ((b.take 16).drop 12) := by
    obtain ⟨a', ha', h'⟩ := h.part 12 16 (cap - 12) (by omega) (by omega) (by omega) (by omega) hbe
    injection ha' with ha'
    subst ha'
    have e : (a.add 12) = { block := a.block, off := a.off + 12 } := by unfold Addr.add; rfl
    rw [e] at h'
    have e2 : (b.take 16).drop 12 = (b.drop 12).take 4 := by rw [List.drop_take]
    rw [e2]; exact h'
  obtain ⟨bo, hbo⟩ : ∃ bo, bo = if 16 + n = 16 then some a else some ({ block := a.block, off := a.off + 16 } : Addr) := ⟨_, rfl⟩
  rw [← hbo] at hx1
  have HBO := Lib.hid hbo
  have hx3 : BytesV w A (.slice (some { block := a.block, off := a.off + 4 }) 8 (cap - 4)) ((b.take 12).drop 4) := by
    obtain ⟨a', ha', h'⟩ := h.part 4 12 (cap - 4) (by omega) (by omega) (by omega) (by omega) hbe
    injection ha' with ha'
    subst ha'
    have e : (a.add 4) = { block := a.block, off := a.off + 4 } := by unfold Addr.add; rfl
    rw [e] at h'
    have e2 : (b.take 12).drop 4 = (b.drop 4).take 8 := by rw [List.drop_take]
    rw [e2]; exact h'
  have HX3 := Lib.hid hx3
  have h12 := h.take 12 (by omega)
  have hS0 := next_sum h12 hx1
  have HG0 : ∀ W, Kp [] w.heap.size w W → Calls Tryz.prog 79 #[.slice (some { block := a.block, off := a.off + 12 }) 4 (cap - 12)] W fun e w' => e = .returned (.int .u64 ((getN ((b.take 16).drop 12) 0 : Nat) : Int)) ∧ W = w' := fun W hk => nGet _ _ W (hx2.kp hk (by simp)) (by simp; omega)
  obtain ⟨s, hs⟩ : ∃ s, s = sumN (b.take 12 ++ (b.drop 16).take n) := ⟨_, rfl⟩
  obtain ⟨z, hz⟩ : ∃ z, z = getN ((b.take 16).drop 12) 0 := ⟨_, rfl⟩
  rw [← hs] at hS0 hsum
  rw [← hz] at HG0 hsum
  rw [← hx] at hx1 ⊢
  have HX1 := Lib.hid hx1
  have HXL := Lib.hid hxl
  obtain ⟨q, hq⟩ : ∃ q, q = getN ((b.take 12).drop 4) 0 := ⟨_, rfl⟩
  rw [← hq]
  have HQ := Lib.hid hq
  have hxle : x.length ≤ 65536 := by omega
  have HXE := Lib.hid hx
  unfold NextP
  have HS := Lib.hid hS0
  have HG := Lib.hid HG0
  have H4 := Lib.hid (h.take 4 (by omega))
  have HM := Lib.hid hm
  have HN := Lib.hid hnn
  have hsl : s < 4294967296 := by rw [hs]; exact sumN_lt _
  have hw : IntKind.u64.wrap (s : Int) = (s : Int) := by rw [IntKind.wrap_u64]; omega
  have hq1 : ((s : Int) == (z : Int)) = true := by simp; omega
  have hq2 : ((s : Int) != (z : Int)) = false := by simp; omega
  have hd : decide ((m : Int) < 16) = false := decide_eq_false (by omega)
  have hd6 : decide (65536 < n) = false := decide_eq_false (by omega)
  have hd6' : decide ((65536 : Int) < (n : Int)) = false := decide_eq_false (by omega)
  have hn3 : (n : Int) ≤ (m : Int) - 16 := by omega
  clear hq hx hxl hx3 h hm hnn hs hz hsum hbp hbe hx1 hx2 h12 hS0 HG0 hbo
  go_enter Tryz.func57, Tryz.ntmps57
  go_wp2_with fail
  refine (nGet _ _ w H4.out (by simp; omega)).mono ?_
  rintro e w1 ⟨rfl, rfl⟩
  rw [← HN.out]
  clear hd
  go_upto_region 8 with fail
  rw [show 16 + n - 16 = n by omega, ← HBO.out]
  go_region_with (first | (go_at_call 80; refine HS.out.mono ?_; rintro e w6 ⟨rfl, k6⟩) | (go_at_call 79; refine (HG.out _ (by first | assumption | exact Kp.refl _ _ _ | exact (Kp.refl _ _ _).drew 1 | exact ((Kp.refl _ _ _).alloc (Nat.le_refl _) _).drew 1)).mono ?_; rintro e w7 ⟨rfl, rfl⟩))
  all_goals (go_wp2_with fail)
  all_goals
    have h6 : Kp [] w.heap.size w w6 := by assumption
    have HK6 := Lib.hid h6
    clear h6
    refine (nGet _ _ w6 (HX3.out.kp HK6.out (by simp)) (by simp; omega)).mono ?_
    rintro e w8 ⟨rfl, rfl⟩
    rw [← HQ.out]
    go_wp2_with fail
    refine (dClone (HX1.out.kp HK6.out (by simp)) (by omega)).mono ?_
    rintro e w9 ⟨v9, rfl, ho9, hb9⟩
    obtain ⟨o9, n9, p9, rfl, hn9⟩ := own_shape ho9
    have HO9 := Lib.hid (ho9.base HK6.out.size)
    have HK9 := Lib.hid (HK6.out.trans ((Kp.of_below (L := []) hb9 (Nat.le_refl _)).mono (by simp) HK6.out.size))
    have HN9 : Hid (IntKind.i64.wrap (16 + (n : Int)) = 16 + (x.length : Int)) := by rw [HXL.out]; exact Lib.hid (IntWalk.i64_in _ (by omega))
    clear ho9 hb9
    go_wp2_with fail
    go_ret3
    refine ⟨_, ?_, HO9.out, HK9.out⟩
    rw [HXL.out]
    exact rfl
end Go.Proofs.YtdabflkejhoghaaGreat.Hand
namespace Go.Proofs.YtdabflkejhoghaaGreat.Hand
open Go Go.RowKit Go.Maps Go.WideMaps
set_option linter.unusedVariables false
set_option linter.unusedSimpArgs false
theorem cNext_none (v : Value) (b : List UInt8) {A : Nat → Prop} (w : World) (h : BytesV w A v b) (hlm : b.length ≤ 140737488355328) (hn : nextB b = none) :
    Calls Tryz.prog 57 #[v] w fun e w' => e = .returned (.tuple #[.int .u64 0, .slice none 0 0, .int .i64 0]) ∧ Kp [] w.heap.size w w' := by
  by_cases h16 : b.length < 16
  · exact (cNext_short v b w h h16).mono fun e w' ⟨he, hw⟩ => ⟨he, by subst hw; exact Kp.refl _ _ _⟩
  · by_cases h1 : 65536 < getN (b.take 4) 0 ∨ b.length - 16 < getN (b.take 4) 0
    · exact (cNext_far v b w h (by omega) hlm h1).mono fun e w' ⟨he, hw⟩ => ⟨he, by subst hw; exact Kp.refl _ _ _⟩
    · refine cNext_bad v b w h (by omega) hlm (by omega) (by omega) (fun e => ?_)
      unfold nextB at hn
      rw [if_neg h16, if_neg (by omega), if_neg (by omega), if_pos e] at hn
      cases hn
theorem cNext_some (v : Value) (b : List UInt8) {A : Nat → Prop} (w : World) (h : BytesV w A v b) (hlm : b.length ≤ 140737488355328) {s : Nat} {x : List UInt8} (hn : nextB b = some (s, x)) :
    Calls Tryz.prog 57 #[v] w (NextP w s x) := by
  unfold nextB at hn
  by_cases h16 : b.length < 16
  · rw [if_pos h16] at hn; cases hn
  rw [if_neg h16] at hn
  by_cases h1 : 65536 < getN (b.take 4) 0
  · rw [if_pos h1] at hn; cases hn
  rw [if_neg h1] at hn
  by_cases h2 : b.length - 16 < getN (b.take 4) 0
  · rw [if_pos h2] at hn; cases hn
  rw [if_neg h2] at hn
  by_cases h3 : sumN (b.take 12 ++ (b.drop 16).take (getN (b.take 4) 0)) = getN ((b.take 16).drop 12) 0
  case neg => rw [if_neg h3] at hn; cases hn
  rw [if_pos h3] at hn
  injection hn with hn
  injection hn with hs hx
  subst hs hx
  exact cNext_good v b w h (by omega) hlm (by omega) (by omega) h3
end Go.Proofs.YtdabflkejhoghaaGreat.Hand
namespace Go.Proofs.YtdabflkejhoghaaGreat.Hand
open Go Go.RowKit Go.Maps Go.WideMaps
set_option linter.unusedVariables false
set_option linter.unusedSimpArgs false
/-- A function value that does f to the disk, in whatever world behind w. -/
def StepOk (w : World) (A : Nat → Prop) (p mb k : Nat) (caps : Array Value) (f : Dk → Dk × Bool) : Prop :=
  ∀ (W : World) (d : Dk), Kp [p, mb] w.heap.size w W → IsDisk W A p mb d → Calls Tryz.prog k caps W fun e w' => e = .returned (.bool (f d).2) ∧ IsDisk w' A p mb (f d).1 ∧ Kp [p, mb] W.heap.size W w'
theorem StepOk.kp {w w' : World} {A : Nat → Prop} {p mb k : Nat} {caps : Array Value} {f : Dk → Dk × Bool} (h : StepOk w A p mb k caps f) (hk : Kp [p, mb] w.heap.size w w') : StepOk w' A p mb k caps f :=
  fun W d hW hd => h W d (hk.trans (hW.mono (fun _ h => h) hk.size)) hd
theorem len3 (nm : List UInt8) (h : nm = sSnap ∨ nm = sLog ∨ nm = sNext) : nm.length ≤ maxLen := by rcases h with rfl | rfl | rfl <;> decide
theorem two_cells (w : World) (o1 o2 : Obj) : ((w.alloc o1).alloc o2).heap[w.heap.size]? = some o1 ∧ ((w.alloc o1).alloc o2).heap[w.heap.size + 1]? = some o2 := by
  refine ⟨(Below.heap_alloc _ _ _ (by simp)).trans (World.alloc_heap_new w _), ?_⟩
  have := World.alloc_heap_new (w.alloc o1) o2
  rwa [World.size_alloc] at this
theorem three_cells (w : World) (o1 o2 o3 : Obj) : (((w.alloc o1).alloc o2).alloc o3).heap[w.heap.size]? = some o1 ∧ (((w.alloc o1).alloc o2).alloc o3).heap[w.heap.size + 1]? = some o2 ∧ (((w.alloc o1).alloc o2).alloc o3).heap[w.heap.size + 2]? = some o3 := by
  obtain ⟨h1, h2⟩ := two_cells w o1 o2
  refine ⟨(Below.heap_alloc _ _ _ (by simp; omega)).trans h1, (Below.heap_alloc _ _ _ (by simp)).trans h2, ?_⟩
  have := World.alloc_heap_new ((w.alloc o1).alloc o2) o3
  simpa using this
set_option maxRecDepth 100000 in
theorem wgone1 {A : Nat → Prop} {p mb g1 g2 : Nat} {d : Dk} {nm : List UInt8} {W : World} (h : IsDisk W A p mb d) (c1 : W.cell? ⟨g1, 0, none⟩ = some (.pointer (some ⟨p, 0, none⟩))) (c2 : W.cell? ⟨g2, 0, none⟩ = some (.string ⟨nm.toArray⟩)) (hg1 : g1 < W.heap.size) (hg2 : g2 < W.heap.size) (hl : nm.length ≤ maxLen) :
    Calls Tryz.prog 62 #[.pointer (some ⟨g1, 0, none⟩), .pointer (some ⟨g2, 0, none⟩)] W fun e w' => e = .returned (.bool (d.goneD nm).2) ∧ IsDisk w' A p mb (d.goneD nm).1 ∧ Kp [p, mb] W.heap.size W w' := by
  have HD := Lib.hid h
  clear h
  cases ht : d.there nm with
  | false =>
    have HG : Hid (d.goneD nm = (d, true)) := Lib.hid (by unfold Dk.goneD; rw [ht]; rfl)
    rw [HG.out]
    go_enter Tryz.func62, Tryz.ntmps62
    go_wp2_with fail
    refine (dRead A p mb d nm W HD.out hl).mono ?_
    rintro e w1 ⟨v1, rfl, ho1, k1⟩
    rw [ht]
    have HD1 := Lib.hid (HD.out.kp_ge k1)
    have HK1 := Lib.hid k1
    clear ho1 k1
    go_wp2_with fail
    go_ret
    exact ⟨rfl, HD1.out, HK1.out.mono (by simp) (Nat.le_refl _)⟩
  | true =>
    have HG : Hid (d.goneD nm = d.drop nm) := Lib.hid (by unfold Dk.goneD; rw [ht]; rfl)
    rw [HG.out]
    go_enter Tryz.func62, Tryz.ntmps62
    go_wp2_with fail
    refine (dRead A p mb d nm W HD.out hl).mono ?_
    rintro e w1 ⟨v1, rfl, ho1, k1⟩
    rw [ht]
    have HD1 := Lib.hid (HD.out.kp_ge k1)
    have HK1 := Lib.hid k1
    have e1 := (k1.cell (p := ⟨g1, 0, none⟩) hg1 (by simp)).trans c1
    have e2 := (k1.cell (p := ⟨g2, 0, none⟩) hg2 (by simp)).trans c2
    clear ho1 k1 c1 c2
    go_wp2_with fail
    refine (dDrop A p mb d nm w1 HD1.out hl).mono ?_
    rintro e w2 ⟨rfl, h2, k2⟩
    have HD2 := Lib.hid h2
    have HK2 := Lib.hid k2
    clear h2 k2
    go_wp2_with fail
    go_ret
    exact ⟨rfl, HD2.out, (HK1.out.mono (by simp) (Nat.le_refl _)).trans (HK2.out.mono (by simp) HK1.out.size)⟩
set_option maxRecDepth 100000 in
theorem wlaid1 {A : Nat → Prop} {p mb g1 g2 g3 : Nat} {d : Dk} {nm b : List UInt8} {v : Value} {B : Nat → Prop} {W : World} (h : IsDisk W A p mb d) (c1 : W.cell? ⟨g1, 0, none⟩ = some (.pointer (some ⟨p, 0, none⟩))) (c2 : W.cell? ⟨g2, 0, none⟩ = some v) (c3 : W.cell? ⟨g3, 0, none⟩ = some (.string ⟨nm.toArray⟩))
    (hg1 : g1 < W.heap.size ∧ g1 ∉ [p, mb]) (hg3 : g3 < W.heap.size ∧ g3 ∉ [p, mb]) (hl : nm.length ≤ maxLen) (hb : BytesV W B v b) (hB : ¬ B p) (hlen : b.length ≤ 140737488355328) (hA : ∀ k, W.heap.size ≤ k → A k) :
    Calls Tryz.prog 60 #[.pointer (some ⟨g1, 0, none⟩), .pointer (some ⟨g2, 0, none⟩), .pointer (some ⟨g3, 0, none⟩)] W fun e w' => e = .returned (.bool (d.laidD b nm).2) ∧ IsDisk w' A p mb (d.laidD b nm).1 ∧ Kp [p, mb] W.heap.size W w' := by
  have HD := Lib.hid h
  have HL : Hid (d.laidD b nm = andD (andD (d.append sNext b) (fun d => d.sync sNext)) (fun d => d.rename sNext nm)) := Lib.hid rfl
  obtain ⟨r1, hr1⟩ : ∃ r, r = d.append sNext b := ⟨_, rfl⟩
  have HR1 := Lib.hid hr1
  rw [← hr1] at HL
  have HBV := Lib.hid hb
  obtain ⟨bo, bc, rfl, -, -, -⟩ := id hb
  obtain ⟨m, hm⟩ : ∃ m, m = b.length := ⟨_, rfl⟩
  rw [← hm] at c2 HBV
  have HA := Lib.hid hA
  clear hr1 h hb hm hA
  go_enter Tryz.func60, Tryz.ntmps60
  go_wp2_with fail
  refine (dAppend A p mb d sNext b B _ W HD.out (by decide) HBV.out hB hlen HA.out).mono ?_
  rintro e w1 ⟨rfl, h1, k1⟩
  rw [← HR1.out] at h1 ⊢
  have HD1 := Lib.hid h1
  have HK1 := Lib.hid k1
  have e1 := (k1.cell (p := ⟨g1, 0, none⟩) hg1.1 hg1.2).trans c1
  have e3 := (k1.cell (p := ⟨g3, 0, none⟩) hg3.1 hg3.2).trans c3
  obtain ⟨d1, ok1⟩ := r1
  clear h1 k1 c1 c2 c3
  cases ok1 with
  | false =>
    go_wp2_with fail
    go_ret
    rw [HL.out]
    exact ⟨rfl, HD1.out, HK1.out⟩
  | true =>
    have HL2 : Hid (d.laidD b nm = andD (d1.sync sNext) (fun d => d.rename sNext nm)) := HL
    go_wp2_with fail
    refine (dSync A p mb d1 sNext w1 HD1.out (by decide)).mono ?_
    rintro e w2 ⟨rfl, h2, k2⟩
    obtain ⟨r2, hr2⟩ : ∃ r, r = d1.sync sNext := ⟨_, rfl⟩
    rw [← hr2] at h2 HL2 ⊢
    have HD2 := Lib.hid h2
    have HK2 := Lib.hid (HK1.out.trans (k2.mono (by simp) HK1.out.size))
    have f1 := (k2.cell (p := ⟨g1, 0, none⟩) (Nat.lt_of_lt_of_le hg1.1 HK1.out.size) hg1.2).trans e1
    have f3 := (k2.cell (p := ⟨g3, 0, none⟩) (Nat.lt_of_lt_of_le hg3.1 HK1.out.size) hg3.2).trans e3
    obtain ⟨d2, ok2⟩ := r2
    clear h2 k2 e1 e3 hr2
    cases ok2 with
    | false =>
      go_wp2_with fail
      go_ret
      rw [HL2.out]
      exact ⟨rfl, HD2.out, HK2.out⟩
    | true =>
      have HL3 : Hid (d.laidD b nm = d2.rename sNext nm) := HL2
      go_wp2_with fail
      refine (dRename A p mb d2 sNext nm w2 HD2.out (by decide) hl).mono ?_
      rintro e w3 ⟨rfl, h3, k3⟩
      have HD3 := Lib.hid h3
      have HK3 := Lib.hid (HK2.out.trans (k3.mono (by simp) HK2.out.size))
      clear h3 k3
      go_wp2_with fail
      go_ret
      rw [HL3.out]
      exact ⟨rfl, HD3.out, HK3.out⟩
set_option maxRecDepth 100000 in
theorem wcut1 {A : Nat → Prop} {p mb g1 : Nat} {d : Dk} {W : World} (h : IsDisk W A p mb d) (c1 : W.cell? ⟨g1, 0, none⟩ = some (.pointer (some ⟨p, 0, none⟩))) :
    Calls Tryz.prog 34 #[.pointer (some ⟨g1, 0, none⟩)] W fun e w' => e = .returned (.bool (d.drop sLog).2) ∧ IsDisk w' A p mb (d.drop sLog).1 ∧ Kp [p, mb] W.heap.size W w' := by
  have HD := Lib.hid h
  clear h
  go_enter Tryz.func34, Tryz.ntmps34
  go_wp2_with fail
  refine (dDrop A p mb d sLog W HD.out (by decide)).mono ?_
  rintro e w1 ⟨rfl, h1, k1⟩
  have HD1 := Lib.hid h1
  have HK1 := Lib.hid k1
  clear h1 k1
  go_wp2_with fail
  go_ret
  exact ⟨rfl, HD1.out, HK1.out⟩
/-- the makers of closures -/
theorem wgone (A : Nat → Prop) (p mb : Nat) (nm : List UInt8) (w : World) (hl : nm.length ≤ maxLen) (hp : p < w.heap.size ∧ mb < w.heap.size) :
    Calls Tryz.prog 38 #[.pointer (some ⟨p, 0, none⟩), .string ⟨nm.toArray⟩] w fun e w' => ∃ caps, e = .returned (.func (.func 62) #[] caps) ∧ StepOk w' A p mb 62 caps (fun d => d.goneD nm) ∧ Kp [] w.heap.size w w' := by
  have hmf : ∀ (fn : Fn) (first cap : Array Value) (w : World), (Instr.makeFunc fn first cap).run Tryz.prog w = .ok (.func fn first cap) w := fun _ _ _ _ => rfl
  have HP := Lib.hid hp
  clear hp
  go_enter Tryz.func38, Tryz.ntmps38
  go_wp2
  go_ret
  refine ⟨_, rfl, ?_, ((Kp.refl _ _ _).alloc (Nat.le_refl _) _).alloc (by simp) _⟩
  intro W d hk hd
  obtain ⟨h1, h2⟩ := two_cells w (.cells #[.pointer (some ⟨p, 0, none⟩)] 27) (.cells #[.string ⟨nm.toArray⟩] 9)
  have b1 := (hk.block w.heap.size (by simp; omega) (by have := HP.out; simp; omega)).trans h1
  have b2 := (hk.block (w.heap.size + 1) (by simp) (by have := HP.out; simp; omega)).trans h2
  have hz := hk.size
  simp only [World.size_alloc] at hz
  exact wgone1 hd (cell1 b1).1 (cell1 b2).1 (by omega) (by omega) hl
theorem wlaid (A : Nat → Prop) (p mb : Nat) (nm b : List UInt8) (v : Value) (B : Nat → Prop) (w : World) (hl : nm.length ≤ maxLen) (hp : p < w.heap.size ∧ mb < w.heap.size) (hb : BytesV w B v b) (hB : ¬ B p ∧ ¬ B mb) (hlen : b.length ≤ 140737488355328) (hA : ∀ k, w.heap.size ≤ k → A k) :
    Calls Tryz.prog 36 #[.pointer (some ⟨p, 0, none⟩), v, .string ⟨nm.toArray⟩] w fun e w' => ∃ caps, e = .returned (.func (.func 60) #[] caps) ∧ StepOk w' A p mb 60 caps (fun d => d.laidD b nm) ∧ Kp [] w.heap.size w w' := by
  have hmf : ∀ (fn : Fn) (first cap : Array Value) (w : World), (Instr.makeFunc fn first cap).run Tryz.prog w = .ok (.func fn first cap) w := fun _ _ _ _ => rfl
  have HP := Lib.hid hp
  have HB := Lib.hid hb
  have HA := Lib.hid hA
  obtain ⟨bo, bc, rfl, -, -, -⟩ := id hb
  clear hp hb hA
  obtain ⟨m, hm⟩ : ∃ m, m = b.length := ⟨_, rfl⟩
  rw [← hm] at HB ⊢
  clear hm
  go_enter Tryz.func36, Tryz.ntmps36
  go_wp2
  go_ret
  have hk3 : Kp [] w.heap.size w (((w.alloc (.cells #[.pointer (some ⟨p, 0, none⟩)] 27)).alloc (.cells #[.slice bo m bc] 39)).alloc (.cells #[.string ⟨nm.toArray⟩] 9)) := (((Kp.refl _ _ _).alloc (Nat.le_refl _) _).alloc (by simp) _).alloc (by simp; omega) _
  refine ⟨_, rfl, ?_, hk3⟩
  intro W d hk hd
  obtain ⟨h1, h2, h3⟩ := three_cells w (.cells #[.pointer (some ⟨p, 0, none⟩)] 27) (.cells #[.slice bo m bc] 39) (.cells #[.string ⟨nm.toArray⟩] 9)
  have b1 := (hk.block w.heap.size (by simp; omega) (by have := HP.out; simp; omega)).trans h1
  have b2 := (hk.block (w.heap.size + 1) (by simp) (by have := HP.out; simp; omega)).trans h2
  have b3 := (hk.block (w.heap.size + 2) (by simp) (by have := HP.out; simp; omega)).trans h3
  have hz := hk.size
  simp only [World.size_alloc] at hz
  exact wlaid1 hd (cell1 b1).1 (cell1 b2).1 (cell1 b3).1 ⟨by omega, by have := HP.out; simp; omega⟩ ⟨by omega, by have := HP.out; simp; omega⟩ hl ((HB.out.kp hk3 (by simp)).kp hk (by simpa using hB)) hB.1 hlen (fun k hk => HA.out k (by omega))
end Go.Proofs.YtdabflkejhoghaaGreat.Hand
namespace Go.Proofs.YtdabflkejhoghaaGreat.Hand
open Go Go.RowKit Go.Maps Go.WideMaps
set_option linter.unusedVariables false
set_option linter.unusedSimpArgs false
structure Stp where
  k : Nat
  caps : Array Value
  f : Dk → Dk × Bool
def allD (r : Dk × Bool) : List Stp → Dk × Bool
  | [] => r
  | s :: l => allD (andD r s.f) l
theorem allD_take (r : Dk × Bool) : ∀ (l : List Stp) (j : Nat) (hj : j < l.length), allD r (l.take (j + 1)) = andD (allD r (l.take j)) l[j].f
  | s :: l, 0, _ => rfl
  | s :: l, j + 1, hj => by
    simp only [List.take_succ_cons, allD]
    exact allD_take _ l j (by simpa using hj)
theorem allD_false : ∀ (l : List Stp) (d : Dk), allD (d, false) l = (d, false)
  | [], _ => rfl
  | s :: l, d => allD_false l d
theorem allD_stop (r : Dk × Bool) (l : List Stp) (j : Nat) (d : Dk) (h : allD r (l.take j) = (d, false)) : allD r l = (d, false) := by
  induction j generalizing r l with
  | zero =>
    simp only [List.take_zero, allD] at h
    subst h
    exact allD_false l d
  | succ j ih =>
    cases l with
    | nil => exact h
    | cons s l => exact ih (andD r s.f) l h
def EnterOk (k : Nat) : Prop := ∀ (args : Array Value) (w : World), (callFunc k args).run Tryz.prog w = .ok (.enter k args) w
def Steps (w : World) (A : Nat → Prop) (p mb blk : Nat) (ss : List Stp) : Prop :=
  ∀ i (hi : i < ss.length), w.cell? ⟨blk, i, none⟩ = some (.func (.func ss[i].k) #[] ss[i].caps) ∧ StepOk w A p mb ss[i].k ss[i].caps ss[i].f ∧ EnterOk ss[i].k
set_option maxHeartbeats 1000000 in
set_option maxRecDepth 100000 in
theorem wall {A : Nat → Prop} {p mb blk : Nat} {d : Dk} (ss : List Stp) (w : World) (h : IsDisk w A p mb d) (hs : Steps w A p mb blk ss) (hb : blk < w.heap.size ∧ blk ≠ p ∧ blk ≠ mb) (hl : ss.length ≤ 8) :
    Calls Tryz.prog 37 #[.slice (some ⟨blk, 0, none⟩) ss.length ss.length] w fun e w' => e = .returned (.bool (allD (d, true) ss).2) ∧ IsDisk w' A p mb (allD (d, true) ss).1 ∧ Kp [p, mb] w.heap.size w w' := by
  obtain ⟨m, hm⟩ : ∃ m, m = ss.length := ⟨_, rfl⟩
  rw [← hm] at hl ⊢
  have HM := Lib.hid hm
  have HS := Lib.hid hs
  have HB := Lib.hid hb
  have HD := Lib.hid h
  clear hm hs h hb
  go_enter Tryz.func37, Tryz.ntmps37
  go_wp2
  go_loopw [7] (fun i wr => ∃ (j : Nat) (d' : Dk), j ≤ m ∧ i = .int .i64 (j : Int) ∧ Hid (allD (d, true) (ss.take j) = (d', true) ∧ IsDisk wr A p mb d' ∧ Kp [p, mb] w.heap.size w wr)) (fun i _ => m - (intOf i).toNat)
  case atStart => exact ⟨0, d, by omega, rfl, rfl, HD.out, Kp.refl _ _ _⟩
  case round =>
    obtain ⟨j, d', hj, rfl, HI⟩ := hrel
    by_cases hlt : j < m
    · have hjs : j < ss.length := by rw [← HM.out]; exact hlt
      obtain ⟨hc, hso, he⟩ := HS.out j hjs
      obtain ⟨s, hsj⟩ : ∃ s, s = ss[j] := ⟨_, rfl⟩
      rw [← hsj] at hc hso he
      unfold EnterOk at he
      have hcr := (HI.out.2.2.cell (p := ⟨blk, j, none⟩) HB.out.1 (by have := HB.out; simp; omega)).trans hc
      have HSO := Lib.hid hso
      have HSJ := Lib.hid hsj
      clear hsj hso hc
      go_wp2_with fail
      refine (HSO.out wr d' HI.out.2.2 HI.out.2.1).mono ?_
      rintro e w2 ⟨rfl, h2, k2⟩
      have hall := allD_take (d, true) ss j hjs
      rw [HI.out.1, andD_true (r := (d', true)) rfl, ← HSJ.out] at hall
      have hal2 : allD (d, true) (ss.take (j + 1)) = s.f d' := hall
      clear hall
      obtain ⟨r, hr⟩ : ∃ r, r = s.f d' := ⟨_, rfl⟩
      rw [← hr] at h2 hal2 ⊢
      have HK2 := Lib.hid (HI.out.2.2.trans (k2.mono (by simp) HI.out.2.2.size))
      obtain ⟨d2, ok2⟩ := r
      have H2 := Lib.hid h2
      have HA2 := Lib.hid hal2
      clear h2 hal2 k2 hr HI he hcr
      cases ok2 with
      | false =>
        go_wp2_with fail
        go_ret
        rw [allD_stop (d, true) ss (j + 1) d2 HA2.out]
        exact ⟨rfl, H2.out, HK2.out⟩
      | true =>
        go_wp2_with fail
        go_roundw
        case rel => exact ⟨j + 1, d2, by omega, by go_num, HA2.out, H2.out, HK2.out⟩
        case measure => simp [intOf]; omega
    · have hjm : j = m := by omega
      subst hjm
      have HA : Hid (allD (d, true) ss = (d', true)) := by
        have := HI.out.1
        rw [HM.out, List.take_length] at this
        exact this
      go_wp2_with fail
      go_ret
      rw [HA.out]
      exact ⟨rfl, HI.out.2.1, HI.out.2.2⟩
theorem enter1 : EnterOk 62 := enters_of Tryz.func62 (by kernel_rfl) rfl
theorem enter2 : EnterOk 60 := enters_of Tryz.func60 (by kernel_rfl) rfl
theorem enter3 : EnterOk 34 := enters_of Tryz.func34 (by kernel_rfl) rfl
end Go.Proofs.YtdabflkejhoghaaGreat.Hand
namespace Go.Proofs.YtdabflkejhoghaaGreat.Hand
open Go Go.RowKit Go.Maps Go.WideMaps
set_option linter.unusedVariables false
set_option linter.unusedSimpArgs false
/-- what is left of bytes -/
theorem BytesV.drop {w : World} {A : Nat → Prop} {a : Addr} {m cap : Nat} {b : List UInt8} (h : BytesV w A (.slice (some a) m cap) b) (n : Nat) (hn : n ≤ b.length) :
    BytesV w A (.slice (some (if n = cap then a else a.add n)) (m - n) (cap - n)) (b.drop n) := by
  obtain ⟨ao', cap', e, h1, h2, h3⟩ := h
  obtain ⟨rfl, rfl, rfl⟩ : some a = ao' ∧ m = b.length ∧ cap = cap' := by simpa using e
  rcases h3 with ⟨h, _⟩ | ⟨a', ha', ha, hx⟩
  · cases h
  · injection ha' with ha'
    subst ha'
    refine ⟨_, cap - n, by rw [List.length_drop], by rw [List.length_drop]; omega, by omega, .inr ⟨_, rfl, fun hd => ?_, fun k hk => ?_⟩⟩
    · have hb : b ≠ [] := fun e => hd (by rw [e]; simp)
      split
      · exact ha hb
      · rw [add_block]; exact ha hb
    · rw [List.length_drop] at hk
      rw [if_neg (by omega), add_add', List.getElem_drop]
      exact hx (n + k) (by omega)
def lenOf : Value → Nat
  | .slice _ n _ => n
  | _ => 0
set_option maxHeartbeats 1000000 in
set_option maxRecDepth 100000 in
theorem wbehind {A : Nat → Prop} (v : Value) (b : List UInt8) (most : Nat) (w : World) (h : BytesV w A v b) (hlm : b.length ≤ 140737488355328) (hm : most < 18446744073709551616) :
    Calls Tryz.prog 32 #[v, .int .u64 (most : Int)] w fun e w' => ∃ v', e = .returned v' ∧ BytesV w' A v' (behindB b most) ∧ Kp [] w.heap.size w w' := by
  have HB := Lib.hid h
  obtain ⟨ao, cap, rfl, -, -, -⟩ := id h
  obtain ⟨m0, hm0⟩ : ∃ m, m = b.length := ⟨_, rfl⟩
  rw [← hm0] at HB ⊢
  have HM0 := Lib.hid hm0
  clear h hm0
  go_enter Tryz.func32, Tryz.ntmps32
  go_wp2
  go_step3
  go_wp2
  go_step3
  go_wp2
  go_loopw [0] (fun x wr => ∃ (ao' : Option Addr) (cap' m : Nat) (b' : List UInt8), x = .slice ao' m cap' ∧ Hid (BytesV wr A (.slice ao' m cap') b' ∧ m = b'.length ∧ behindB b' most = behindB b most ∧ b'.length ≤ b.length ∧ Kp [] w.heap.size w wr)) (fun x _ => lenOf x)
  case atStart => exact ⟨ao, cap, m0, b, rfl, HB.out, HM0.out, rfl, Nat.le_refl _, Kp.refl _ _ _⟩
  case round =>
    obtain ⟨ao', cap', m, b', rfl, HI⟩ := hrel
    have hlb : b'.length ≤ 140737488355328 := by have := HI.out.2.2.2.1; omega
    cases hn : nextB b' with
    | none =>
      have HE : Hid (behindB b most = b') := by
        have := HI.out.2.2.1
        rw [behindB_none hn] at this
        exact this.symm
      go_wp2_with fail
      refine (cNext_none _ b' wr HI.out.1 hlb hn).mono ?_
      rintro e w2 ⟨rfl, k2⟩
      have HK2 := Lib.hid (HI.out.2.2.2.2.trans (k2.mono (by simp) HI.out.2.2.2.2.size))
      have HB2 := Lib.hid (HI.out.1.kp k2 (by simp))
      clear k2 HI hn
      go_wp2_with fail
      (try rw [Exit.noGoto_ret])
      go_ret
      rw [HE.out]
      exact ⟨_, rfl, HB2.out, HK2.out⟩
    | some q =>
      obtain ⟨s, x⟩ := q
      have hinv := nextB_inv hn
      go_wp2_with fail
      refine (cNext_some _ b' wr HI.out.1 hlb hn).mono ?_
      rintro e w2 ⟨vx, rfl, ho2, k2⟩
      have HK2 := Lib.hid (HI.out.2.2.2.2.trans (k2.mono (by simp) HI.out.2.2.2.2.size))
      have HB2 := Lib.hid (HI.out.1.kp k2 (by simp))
      obtain ⟨n, hnx⟩ : ∃ n, n = x.length := ⟨_, rfl⟩
      rw [← hnx] at hinv ⊢
      obtain ⟨h1, h2, h3, -⟩ := hinv
      have HN := Lib.hid hn
      have HNX := Lib.hid hnx
      have hml : 16 + n ≤ m := by rw [HI.out.2.1]; exact h3
      by_cases hsm : s ≤ most
      · have d1 : decide ((s : Int) ≤ (most : Int)) = true := decide_eq_true (by omega)
        have d2 : decide (s ≤ most) = true := decide_eq_true hsm
        clear ho2 k2 hn hnx h3
        go_wp2_with fail
        go_roundw
        case rel =>
          have hm2 : m = b'.length := HI.out.2.1
          have hd : b'.length ≠ 0 := by omega
          have HD : BytesV w2 A (.slice (if cap' = 16 + n then ao' else Option.map (fun x => x.add (16 + n)) ao') (m - (16 + n)) (cap' - (16 + n))) (b'.drop (16 + n)) := by
            obtain ⟨x0, rfl, -⟩ := HB2.out.at (k := 0) (by omega)
            have := HB2.out.drop (16 + n) (by omega)
            by_cases hc : 16 + n = cap'
            · rw [if_pos hc.symm]; rw [if_pos hc] at this; exact this
            · rw [if_neg (fun e => hc e.symm)]; rw [if_neg hc] at this; exact this
          refine ⟨_, _, _, b'.drop (16 + n), rfl, HD, by rw [List.length_drop, hm2], ?_, by rw [List.length_drop]; have := HI.out.2.2.2.1; omega, HK2.out⟩
          rw [← HI.out.2.2.1, behindB_some HN.out hsm, HNX.out]
        case measure => simp only [lenOf]; omega
      · have HE : Hid (behindB b most = b') := by
          have := HI.out.2.2.1
          rw [behindB_other hn hsm] at this
          exact this.symm
        have d1 : decide ((s : Int) ≤ (most : Int)) = false := decide_eq_false (by omega)
        have d2 : decide (s ≤ most) = false := decide_eq_false hsm
        obtain ⟨ox, nx, px, rfl, hnx2⟩ := own_shape ho2
        clear ho2 k2 hn hnx h3
        go_wp2_with fail
        (try rw [Exit.noGoto_ret])
        go_ret
        rw [HE.out]
        exact ⟨_, rfl, HB2.out, HK2.out⟩
end Go.Proofs.YtdabflkejhoghaaGreat.Hand
namespace Go.Proofs.YtdabflkejhoghaaGreat.Hand
open Go Go.RowKit Go.Maps Go.WideMaps
set_option linter.unusedVariables false
set_option linter.unusedSimpArgs false
theorem old_look {d : Dk} {nm : List UInt8} {f : F} (h : d.look nm = some f) : d.old nm = f := by unfold Dk.old; rw [h]; rfl
theorem look_len {d : Dk} (h : d.Ok) {nm : List UInt8} {f : F} (hl : d.look nm = some f) : f.b.length ≤ 1048576 := by
  have h1 := used_mem (Dk.look_mem hl).1
  have h2 := h.used
  have h3 := h.room
  omega
/-- what wal.state answers where there is one -/
def StateP (w : World) (x : List UInt8) (s : Nat) (e : Ending) (w' : World) : Prop := ∃ v, e = .returned (.tuple #[v, .int .u64 (s : Int), .bool true]) ∧ BytesV w' (fun k => w.heap.size ≤ k) v x ∧ Kp [] w.heap.size w w'
set_option maxRecDepth 100000 in
theorem wstate_nil {A : Nat → Prop} {p mb : Nat} {d : Dk} (w : World) (h : IsDisk w A p mb d) (hl : d.look sSnap = none) :
    Calls Tryz.prog 31 #[.pointer (some ⟨p, 0, none⟩)] w (StateP w [] 0) := by
  have ht : d.there sSnap = false := by unfold Dk.there; rw [hl]; rfl
  have HD := Lib.hid h
  unfold StateP
  clear h hl
  go_enter Tryz.func31, Tryz.ntmps31
  go_wp2_with fail
  refine (dRead A p mb d sSnap w HD.out (by decide)).mono ?_
  rintro e w1 ⟨v1, rfl, ho1, k1⟩
  rw [ht]
  have HK1 := Lib.hid k1
  clear ho1 k1
  go_wp2_with fail
  go_ret3
  exact ⟨_, rfl, BytesV.nil _ _, HK1.out⟩
set_option maxRecDepth 100000 in
theorem wstate_some {A : Nat → Prop} {p mb : Nat} {d : Dk} (w : World) (h : IsDisk w A p mb d) {f : F} (hl : d.look sSnap = some f) {s : Nat} {x : List UInt8} (hn : nextB f.b = some (s, x)) :
    Calls Tryz.prog 31 #[.pointer (some ⟨p, 0, none⟩)] w fun e w' => ∃ v, e = .returned (.tuple #[v, .int .u64 (s : Int), .bool (decide (16 + x.length = f.b.length))]) ∧ BytesV w' (fun k => w.heap.size ≤ k) v x ∧ Kp [] w.heap.size w w' := by
  have ht : d.there sSnap = true := by unfold Dk.there; rw [hl]; rfl
  have HO := Lib.hid (old_look hl)
  have hfl := look_len h.ok hl
  have HD := Lib.hid h
  have hinv := nextB_inv hn
  have HN := Lib.hid hn
  obtain ⟨n, hnx⟩ : ∃ n, n = x.length := ⟨_, rfl⟩
  obtain ⟨m, hm⟩ : ∃ m, m = f.b.length := ⟨_, rfl⟩
  rw [← hm] at hfl ⊢
  rw [← hnx] at hinv ⊢
  obtain ⟨h1, h2, h3, -⟩ := hinv
  rw [← hm] at h3
  have HNX := Lib.hid hnx
  have HM := Lib.hid hm
  have HE : Hid (((16 : Int) + (n : Int) == (m : Int)) = decide (16 + n = m)) := Lib.hid (by
    by_cases he : 16 + n = m
    · rw [decide_eq_true he]; simp; omega
    · rw [decide_eq_false he]; simp; omega)
  clear h hl hn hnx hm
  go_enter Tryz.func31, Tryz.ntmps31
  go_wp2_with fail
  refine (dRead A p mb d sSnap w HD.out (by decide)).mono ?_
  rintro e w1 ⟨v1, rfl, ho1, k1⟩
  rw [ht]
  rw [HO.out, ← HM.out] at ho1
  have HB1 := Lib.hid (own_bytes ho1)
  obtain ⟨o1, n1, p1, rfl, hn1⟩ := own_shape ho1
  obtain rfl : n1 = m := hn1.out
  have HK1 := Lib.hid k1
  clear ho1 k1 ht
  go_wp2_with fail
  refine (cNext_some _ f.b w1 HB1.out (by rw [← HM.out]; omega) HN.out).mono ?_
  rintro e w2 ⟨vx, rfl, ho2, k2⟩
  obtain ⟨ox, nx, px, rfl, hnx⟩ := own_shape ho2
  have HB2 := Lib.hid ((own_bytes ho2).mono (A' := fun k => w.heap.size ≤ k) (Nat.le_refl _) (fun k h _ => ⟨by have := HK1.out.size; omega, rfl⟩))
  have HK2 := Lib.hid (HK1.out.trans (k2.mono (by simp) HK1.out.size))
  rw [← HNX.out]
  clear ho2 k2
  go_wp2_with fail
  go_ret3
  refine ⟨_, ?_, HB2.out, HK2.out⟩
  rw [← HE.out]
  exact rfl
set_option maxRecDepth 100000 in
theorem wstate_none {A : Nat → Prop} {p mb : Nat} {d : Dk} (w : World) (h : IsDisk w A p mb d) {f : F} (hl : d.look sSnap = some f) (hn : nextB f.b = none) :
    Calls Tryz.prog 31 #[.pointer (some ⟨p, 0, none⟩)] w fun e w' => ∃ v, e = .returned (.tuple #[v, .int .u64 0, .bool false]) ∧ Kp [] w.heap.size w w' := by
  have ht : d.there sSnap = true := by unfold Dk.there; rw [hl]; rfl
  have HO := Lib.hid (old_look hl)
  have hfl := look_len h.ok hl
  have HD := Lib.hid h
  have HN := Lib.hid hn
  obtain ⟨m, hm⟩ : ∃ m, m = f.b.length := ⟨_, rfl⟩
  rw [← hm] at hfl
  have HM := Lib.hid hm
  clear h hl hn hm
  go_enter Tryz.func31, Tryz.ntmps31
  go_wp2_with fail
  refine (dRead A p mb d sSnap w HD.out (by decide)).mono ?_
  rintro e w1 ⟨v1, rfl, ho1, k1⟩
  rw [ht]
  rw [HO.out, ← HM.out] at ho1
  have HB1 := Lib.hid (own_bytes ho1)
  obtain ⟨o1, n1, p1, rfl, hn1⟩ := own_shape ho1
  obtain rfl : n1 = m := hn1.out
  have HK1 := Lib.hid k1
  clear ho1 k1 ht
  go_wp2_with fail
  refine (cNext_none _ f.b w1 HB1.out (by rw [← HM.out]; omega) HN.out).mono ?_
  rintro e w2 ⟨rfl, k2⟩
  have HK2 := Lib.hid (HK1.out.trans (k2.mono (by simp) HK1.out.size))
  clear k2
  go_wp2_with fail
  go_ret3
  exact ⟨_, rfl, HK2.out⟩
theorem wstate_ok {A : Nat → Prop} {p mb : Nat} {d : Dk} (w : World) (h : IsDisk w A p mb d) {s : Nat} {x : List UInt8} (hs : d.stateD = some (x, s)) :
    s < 18446744073709551616 ∧ Calls Tryz.prog 31 #[.pointer (some ⟨p, 0, none⟩)] w (StateP w x s) := by
  unfold Dk.stateD at hs
  cases hl : d.look sSnap with
  | none =>
    rw [hl] at hs
    simp only [Option.some.injEq, Prod.mk.injEq] at hs
    obtain ⟨rfl, rfl⟩ := hs
    exact ⟨by decide, wstate_nil w h hl⟩
  | some f =>
    rw [hl] at hs
    simp only at hs
    cases hn : nextB f.b with
    | none => rw [hn] at hs; cases hs
    | some q =>
      obtain ⟨s', x'⟩ := q
      rw [hn] at hs
      simp only at hs
      by_cases he : 16 + x'.length = f.b.length
      · rw [if_pos he] at hs
        simp only [Option.some.injEq, Prod.mk.injEq] at hs
        obtain ⟨rfl, rfl⟩ := hs
        refine ⟨(nextB_inv hn).2.1, (wstate_some w h hl hn).mono ?_⟩
        rintro e w' ⟨v, rfl, h2, h3⟩
        exact ⟨v, by rw [decide_eq_true he], h2, h3⟩
      · rw [if_neg he] at hs; cases hs
theorem wstate_no {A : Nat → Prop} {p mb : Nat} {d : Dk} (w : World) (h : IsDisk w A p mb d) (hs : d.stateD = none) :
    Calls Tryz.prog 31 #[.pointer (some ⟨p, 0, none⟩)] w fun e w' => ∃ (v : Value) (s : Int), e = .returned (.tuple #[v, .int .u64 s, .bool false]) ∧ Kp [] w.heap.size w w' := by
  unfold Dk.stateD at hs
  cases hl : d.look sSnap with
  | none => rw [hl] at hs; cases hs
  | some f =>
    rw [hl] at hs
    simp only at hs
    cases hn : nextB f.b with
    | none => exact (wstate_none w h hl hn).mono fun e w' ⟨v, he, hk⟩ => ⟨v, 0, he, hk⟩
    | some q =>
      obtain ⟨s', x'⟩ := q
      rw [hn] at hs
      simp only at hs
      by_cases he : 16 + x'.length = f.b.length
      · rw [if_pos he] at hs; cases hs
      · refine (wstate_some w h hl hn).mono ?_
        rintro e w' ⟨v, rfl, h2, h3⟩
        exact ⟨v, s', by rw [decide_eq_false he], h3⟩
end Go.Proofs.YtdabflkejhoghaaGreat.Hand
