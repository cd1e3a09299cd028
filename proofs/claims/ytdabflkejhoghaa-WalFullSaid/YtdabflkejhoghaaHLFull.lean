/- WalFull: the walk. -/
import Derived.Below
import Derived.Deep.Draws
import Derived.Deep.AppendLies
import Derived.Maps.AppendAt
import Derived.OwnWalk
import Derived.Laws.BytesArg
import Derived.Laws.MakeOwn
import Derived.Laws.OwnMore
import Derived.Deep.OwnRows
import Derived.Tactics
import Derived.Lib.ConvBytes
import Derived.Laws.Slices
import Derived.WalkKit
import Derived.KernelRfl
import Derived.RowKit3
import Derived.Deep.LoopGhost
import Derived.Deep.QuietTactic
import Derived.BigQuiet
import Derived.WideLaws
import Derived.Deep.DeepCutAuto
import Derived.Deep.CutBlock
import Derived.Deep.RegionHeld3
import Derived.Laws.Rows
import Derived.Lib.AppendStr
import Derived.ArgAppend
import Derived.Laws.IdiomCopy
import Derived.OrdersHeld
import Derived.Laws.BitsLemmas
import Derived.RowKit
import Derived.Outline
import Derived.Maps.Own
import Derived.Maps.OwnOps
import Derived.Maps.OwnSet
import Derived.Maps.Views
import Derived.Maps.RangeWalk
import Derived.Maps.Ext
import Derived.RangeFuncOwn
import Derived.OneCell
import Derived.Deep.DeepMust
import Derived.Lib.Hide
import Derived.StillTailTactics
import Derived.Laws.AppendOwnNone
import Derived.WalkMore
import Derived.Lib.SlBytesConst
import Derived.WalkLawsBesides
import Derived.Laws.BitsAllLaws
import Derived.Test.YtdabflkejhoghaaHKb
import Derived.Test.YtdabflkejhoghaaHPf
import Derived.Test.YtdabflkejhoghaaWMore
import Derived.Test.YtdabflkejhoghaaWLast
namespace Go.Proofs.Ytdabflkejhoghaa.Hand
open Go Go.RowKit Go.Maps Go.WideMaps Go.Proofs.YtdabflkejhoghaaW.PrintWords Go.Proofs.YtdabflkejhoghaaW.PrintLast Go.Proofs.YtdabflkejhoghaaW.PrintMore
attribute [local go_sem] max2_int min2_int max_two min_two
set_option linter.unusedVariables false
set_option linter.unusedSimpArgs false
theorem full_big (r n : Nat) (a0 : Option Addr) (len0 cap0 : Nat) (w : World) (hbig : 100 < len0) :
    Calls Try.prog 3 #[.int .u8 (r : Int), .slice a0 len0 cap0, .int .u8 (n : Int)] w fun e w' => e = .returned (.bool true) ∧ Kp [] w.heap.size w w' := by
  have hd : decide (100 < len0) = true := decide_eq_true hbig
  have hd' : decide ((100 : Int) < (len0 : Int)) = true := decide_eq_true (by omega)
  go_enter Try.func3, Try.ntmps3
  go_wp2_with fail
  refine (l14known _).mono ?_
  rintro e w1 ⟨rfl, k1⟩
  go_wp2_with fail
  go_ret
  exact ⟨rfl, k1⟩
set_option maxHeartbeats 1600000 in
set_option maxRecDepth 100000 in
theorem full_small (r n : Nat) (a0 : Option Addr) (len0 cap0 : Nat) (w : World) (b : List UInt8) (hlb : b.length = len0) (hB : BytesV w (fun k => k < w.heap.size) (.slice a0 len0 cap0) b) (hr : r < 256) (hn : n < 256) (hs : ¬ 100 < len0) :
    Calls Try.prog 3 #[.int .u8 (r : Int), .slice a0 len0 cap0, .int .u8 (n : Int)] w fun e w' => e = .returned (.bool true) ∧ Kp [] w.heap.size w w' := by
  have hd : decide (100 < len0) = false := decide_eq_false hs
  have hd' : decide ((100 : Int) < (len0 : Int)) = false := decide_eq_false (by omega)
  obtain ⟨K, hK⟩ : ∃ K, K = n % 20 := ⟨_, rfl⟩
  have hKn : (n : Int) % 20 = (K : Int) := by omega
  have hK20 : K < 20 := by omega
  have HLB := Lib.hid hlb
  have HB := Lib.hid hB
  have E0 := Lib.hid (open_new (r : Int))
  have hF0 := FullI.start r b (by omega)
  have HF0 := Lib.hid hF0
  clear hlb hB hF0 hK
  go_enter Try.func3, Try.ntmps3
  go_wp2_with fail
  refine (dNew (fun _ => False) r _ (by omega) ⟨id, id⟩).mono ?_
  rintro e w1 ⟨rfl, h1, k1⟩
  have hz1 := h1.lt
  obtain ⟨A, hA⟩ : ∃ A : Nat → Prop, A = fun k => w1.heap.size ≤ k := ⟨_, rfl⟩
  have h1' : IsDisk w1 A (w.heap.size + 1) w.heap.size (Dk.new r) := h1.widen (fun _ h => h.elim) (by rw [hA]; exact ⟨by omega, by omega⟩)
  have HA := Lib.hid hA
  have H1 := Lib.hid h1'
  have K1 := Lib.hid k1
  clear h1 h1' k1 hA
  go_wp2_with fail
  refine (wOpen w1 H1.out (fun k hk => by rw [HA.out]; exact hk)).mono ?_
  rintro e w2 h2
  rw [E0.out] at h2
  obtain ⟨lb, vx, vl, rfl, hl2, hx2, hr2, hlb, hlb2, k2⟩ := (h2.ok rfl).log H1.out (by decide)
  obtain ⟨ax, cx, rfl, -, -, -⟩ := hx2
  obtain ⟨al, cl, rfl, -, -⟩ := hr2.shape
  obtain ⟨A2, hA2⟩ : ∃ A2 : Nat → Prop, A2 = fun k => A k ∧ k ≠ lb := ⟨_, rfl⟩
  have hAge : ∀ k, w2.heap.size ≤ k → A2 k := fun k hk => by rw [hA2, HA.out]; exact ⟨by show w1.heap.size ≤ k; have := k2.size; omega, by omega⟩
  rw [← hA2] at hl2
  have HL2 := Lib.hid hl2
  have K2 := Lib.hid (K1.out.trans (k2.shed (B' := w.heap.size) (by simp) (by omega)))
  have HAge := Lib.hid hAge
  clear h2 hl2 hr2 k2 hA2 hAge hd hd'
  go_wp2_with fail
  go_loopw [12, 13] (fun so i wr => ∃ (j s : Nat) (l : Lg), j ≤ K ∧ s ≤ j ∧ so = .int .i64 (s : Int) ∧ i = .int .i64 (j : Int) ∧ Hid (FullI r b j s l ∧ IsLog wr A2 lb (w.heap.size + 1) w.heap.size l ∧ Kp [] w.heap.size w wr ∧ w2.heap.size ≤ wr.heap.size)) (fun _ i _ => K - (intOf i).toNat)
  case atStart => exact ⟨0, 0, ⟨Dk.new r, 0, false⟩, by omega, by omega, rfl, rfl, HF0.out, HL2.out, K2.out, Nat.le_refl _⟩
  case round =>
    obtain ⟨j, s, l, hj, hsj, rfl, rfl, HI⟩ := hrel
    obtain ⟨hF, hL, hKr, hzr⟩ := HI.out
    by_cases hlt : j < K
    · have HBr := HB.out.kp hKr (by simp)
      have HFS := Lib.hid (hF.step (by omega) (by rw [HLB.out]; omega))
      have HLr := Lib.hid hL
      have HKr := Lib.hid hKr
      clear hF hL hKr HI
      go_wp2_with fail
      refine (wAppend wr HLr.out _ b HBr (fun k hk => HAge.out k (by omega))).mono ?_
      rintro e w3 ⟨rfl, h3, k3⟩
      have HK3 := Lib.hid (HKr.out.trans (k3.shed (B' := w.heap.size) (by simp; omega) HKr.out.size))
      have hz3 := k3.size
      rcases HFS.out with ⟨l', e1, hF'⟩ | ⟨e1, hF'⟩
      · rw [e1] at h3 ⊢
        have H3 := Lib.hid h3
        have HF' := Lib.hid hF'
        clear h3 hF' e1 k3 HBr
        go_wp2_with fail
        go_roundw
        case rel => exact ⟨j + 1, s + 1, l', by omega, by omega, by go_num, by go_num, HF'.out, H3.out, HK3.out, by omega⟩
        case measure => simp [intOf]; omega
      · rw [e1] at h3 ⊢
        have H3 := Lib.hid h3
        have HF' := Lib.hid hF'
        clear h3 hF' e1 k3 HBr
        go_wp2_with fail
        go_roundw
        case rel => exact ⟨j + 1, s, l, by omega, by omega, by go_num, by go_num, HF'.out, H3.out, HK3.out, by omega⟩
        case measure => simp [intOf]; omega
    · obtain rfl : j = K := by omega
      obtain ⟨T, hT⟩ : ∃ T, T = 16 + len0 := ⟨_, rfl⟩
      obtain ⟨F, hFq⟩ : ∃ F, F = r / T := ⟨_, rfl⟩
      have hsm : s = min j F := by have := hF.some; rw [HLB.out, ← hT, ← hFq] at this; exact this
      have hq : (r : Int) / (16 + (len0 : Int)) = (F : Int) := by rw [hFq, hT, Int.natCast_ediv, Int.natCast_add]; rfl
      have hF255 : F ≤ 255 := by rw [hFq]; exact Nat.le_trans (Nat.div_le_self _ _) (by omega)
      have hop := hF.open (by omega)
      have hlong : (l.d.old sLog).b.length = s * T := by rw [hF.calm.log, frames_rep, HLB.out, hT]
      have hsT : s * T ≤ 20 * 116 := Nat.mul_le_mul (by omega) (by omega)
      obtain ⟨P, hP⟩ : ∃ P, P = s * T := ⟨_, rfl⟩
      rw [← hP] at hsT hlong
      have hmul : (s : Int) * (16 + (len0 : Int)) = (P : Int) := by rw [hP, hT]; simp
      have hmw : IntKind.i64.wrap ((s : Int) * (16 + (len0 : Int))) = (P : Int) := by rw [hmul]; exact IntWalk.i64_in _ (by omega)
      have HMU := Lib.hid hmul
      have hseq : l.seq = s := by have := hF.calm.seq; simpa using this
      have hdd : l.d.dead = false := hF.calm.dead
      have HOP := Lib.hid hop
      have HLO := Lib.hid hlong
      have HSQ := Lib.hid hseq
      have HDD := Lib.hid hdd
      have HLr := Lib.hid hL
      have HKr := Lib.hid hKr
      have HMW := Lib.hid hmw
      clear hop hlong hseq hdd hL hKr hF HI hmul hmw hFq hT HF0 hP hsT
      go_wp2_with fail
      refine (wOpen wr HLr.out.2.1 (fun k hk => HAge.out k (by omega))).mono ?_
      rintro e w4 h4
      rw [HOP.out] at h4
      obtain ⟨lb4, vx4, vl4, rfl, hl4, hx4, hr4, hlb4, hlb42, k4⟩ := (h4.ok rfl).log HLr.out.2.1 (by omega)
      obtain ⟨ax4, cx4, rfl, -, -, -⟩ := hx4
      obtain ⟨al4, cl4, rfl, -, -⟩ := hr4.shape
      have HD4 := Lib.hid (hl4.2.1.widen (A' := A2) (fun k h => h.1) HLr.out.2.1.apart.2)
      have HLL := Lib.hid (HLr.out.kpD k4 HD4.out)
      have K4 := Lib.hid (HKr.out.trans (k4.shed (B' := w.heap.size) (by simp) HKr.out.size))
      rw [List.length_replicate]
      clear h4 hl4 hr4 k4
      by_cases hFj : F < j
      · have hsv : s = F := by omega
        subst hsv
        have e2 : decide ((s : Int) < (j : Int)) = true := decide_eq_true (by omega)
        clear hsm
        go_wp2_with fail
        refine (l14known _).mono ?_
        rintro e w5 ⟨rfl, k5⟩
        have HLL5 := Lib.hid (HLL.out.kp k5)
        have HK5 := Lib.hid k5
        have K5 := Lib.hid (K4.out.trans (k5.mono (by simp) K4.out.size))
        clear k5
        go_wp2_with fail
        refine (wSeq w5 HLL5.out).mono ?_
        rintro e w6 ⟨rfl, rfl⟩
        rw [show (⟨l.d, l.seq, l.broken⟩ : Lg).seq = s from HSQ.out]
        go_wp2_with fail
        refine (wLong w5 HLL5.out).mono ?_
        rintro e w6 ⟨rfl, k6⟩
        rw [show (Lg.d ⟨l.d, l.seq, l.broken⟩).old sLog = l.d.old sLog from rfl, HLO.out]
        have HD6 := Lib.hid ((HD4.out.kp_ge HK5.out).kp_ge k6)
        have K6 := Lib.hid (K5.out.trans (k6.mono (by simp) K5.out.size))
        clear k6
        have hmw := HMW.out
        go_wp2_with fail
        refine (dDead A2 _ _ _ w6 HD6.out).mono ?_
        rintro e w7 ⟨rfl, rfl⟩
        rw [HDD.out]
        go_wp2_with fail
        go_ret
        exact ⟨rfl, K6.out⟩
      · have hsv : s = j := by omega
        subst hsv
        have e2 : decide ((F : Int) < (s : Int)) = false := decide_eq_false (by omega)
        clear hsm
        go_wp2_with fail
        refine (l14known _).mono ?_
        rintro e w5 ⟨rfl, k5⟩
        have HLL5 := Lib.hid (HLL.out.kp k5)
        have HK5 := Lib.hid k5
        have K5 := Lib.hid (K4.out.trans (k5.mono (by simp) K4.out.size))
        clear k5
        go_wp2_with fail
        refine (wSeq w5 HLL5.out).mono ?_
        rintro e w6 ⟨rfl, rfl⟩
        rw [show (⟨l.d, l.seq, l.broken⟩ : Lg).seq = s from HSQ.out]
        go_wp2_with fail
        refine (wLong w5 HLL5.out).mono ?_
        rintro e w6 ⟨rfl, k6⟩
        rw [show (Lg.d ⟨l.d, l.seq, l.broken⟩).old sLog = l.d.old sLog from rfl, HLO.out]
        have HD6 := Lib.hid ((HD4.out.kp_ge HK5.out).kp_ge k6)
        have K6 := Lib.hid (K5.out.trans (k6.mono (by simp) K5.out.size))
        clear k6
        have hmw := HMW.out
        go_wp2_with fail
        refine (dDead A2 _ _ _ w6 HD6.out).mono ?_
        rintro e w7 ⟨rfl, rfl⟩
        rw [HDD.out]
        go_wp2_with fail
        go_ret
        exact ⟨rfl, K6.out⟩
theorem walFull_row (a0 : Int) (a1 : Option Addr) (len1 cap1 : Nat) (z1 : List Int) (a2 : Int) (w : World) (w0 : (Lit.int .u8 a0).wf = true)
    (w1 : (a1 = none ∧ len1 = 0 ∧ cap1 = 0 ∧ z1 = []) ∨ ∃ x, a1 = some x ∧ len1 ≤ cap1 ∧ cap1 ≤ maxLen ∧ z1.length = cap1 ∧ (∀ i, i < z1.length → w.cell? (x.add i) = some (.int .u8 (z1.getD i 0))) ∧ ∀ n ∈ z1, (Lit.int .u8 n).wf = true) (y1 : len1 * 1 ≤ 140737488351232)
    (w2 : (Lit.int .u8 a2).wf = true) :
    Calls Try.prog 3 #[.int .u8 a0, .slice a1 len1 cap1, .int .u8 a2] w fun e w' => e = .returned (.bool true) ∧ Below w.heap.size w w' := by
  obtain ⟨b, hlb, hB⟩ := row_bytesW w1
  obtain ⟨n, hn, rfl⟩ := u8_natW w0
  obtain ⟨m, hm, rfl⟩ := u8_natW w2
  by_cases hbig : 100 < len1
  · exact (full_big n m a1 len1 cap1 w hbig).mono fun e w' ⟨h1, h2⟩ => ⟨h1, h2.below⟩
  · exact (full_small n m a1 len1 cap1 w b hlb hB hn hm hbig).mono fun e w' ⟨h1, h2⟩ => ⟨h1, h2.below⟩
end Go.Proofs.Ytdabflkejhoghaa.Hand
