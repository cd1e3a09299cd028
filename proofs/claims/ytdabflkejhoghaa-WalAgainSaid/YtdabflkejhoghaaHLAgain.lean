/- WalAgain: the walk. -/
import Derived.Below
import Derived.Deep.Draws
import Derived.Deep.AppendLies
import Derived.Maps.AppendAt
import Derived.OwnWalk
import Derived.Laws.BytesArg
import Derived.Laws.MakeOwn
import Derived.Laws.OwnMore
import Derived.Deep.OwnRows
import Derived.Tactics
import Derived.Lib.ConvBytes
import Derived.Laws.Slices
import Derived.WalkKit
import Derived.KernelRfl
import Derived.RowKit3
import Derived.Deep.LoopGhost
import Derived.Deep.QuietTactic
import Derived.BigQuiet
import Derived.WideLaws
import Derived.Deep.DeepCutAuto
import Derived.Deep.CutBlock
import Derived.Deep.RegionHeld3
import Derived.Laws.Rows
import Derived.Lib.AppendStr
import Derived.ArgAppend
import Derived.Laws.IdiomCopy
import Derived.OrdersHeld
import Derived.Laws.BitsLemmas
import Derived.RowKit
import Derived.Outline
import Derived.Maps.Own
import Derived.Maps.OwnOps
import Derived.Maps.OwnSet
import Derived.Maps.Views
import Derived.Maps.RangeWalk
import Derived.Maps.Ext
import Derived.RangeFuncOwn
import Derived.OneCell
import Derived.Deep.DeepMust
import Derived.Lib.Hide
import Derived.StillTailTactics
import Derived.Laws.AppendOwnNone
import Derived.WalkMore
import Derived.Lib.SlBytesConst
import Derived.WalkLawsBesides
import Derived.Laws.BitsAllLaws
import Derived.Test.YtdabflkejhoghaaHRh
import Derived.Test.YtdabflkejhoghaaHPw
import Derived.Test.YtdabflkejhoghaaHKc
import Derived.Test.YtdabflkejhoghaaHKb
import Derived.Test.YtdabflkejhoghaaWMore
import Derived.Test.YtdabflkejhoghaaWLast
namespace Go.Proofs.Ytdabflkejhoghaa.Hand
open Go Go.RowKit Go.Maps Go.WideMaps Go.Proofs.YtdabflkejhoghaaW.PrintWords Go.Proofs.YtdabflkejhoghaaW.PrintLast Go.Proofs.YtdabflkejhoghaaW.PrintMore
set_option linter.unusedVariables false
set_option linter.unusedSimpArgs false
/-- an opening whose answers are let go -/
theorem OpenP.any {w w' : World} {A : Nat → Prop} {p mb : Nat} {o : Opened} {d0 : Dk} {e : Ending} (h : OpenP w A p mb o e w') (hd : IsDisk w A p mb d0) : ∃ v1 v2 v3 v4, e = .returned (.tuple #[v1, v2, v3, v4]) ∧ IsDisk w' A p mb o.d ∧ Kp [p, mb] w.heap.size w w' := by
  by_cases ho : o.err = 0
  · obtain ⟨lb, vx, vl, rfl, -, h2, -, -, -, h6⟩ := h.ok ho
    exact ⟨_, _, _, _, rfl, h2.widen (fun _ h => h.1) hd.apart.2, h6⟩
  · obtain ⟨rfl, h2, h3⟩ := h.no ho
    exact ⟨_, _, _, _, rfl, h2, h3⟩
theorem r13Next_any (v : Value) (b : List UInt8) {A : Nat → Prop} (w : World) (h : BytesV w A v b) (hlm : b.length ≤ 1000000) :
    Calls Try.prog 48 #[v] w fun e w' => ∃ (s t : Nat) (vx : Value), e = .returned (.tuple #[.int .u64 (s : Int), vx, .int .i64 (t : Int)]) ∧ s < 18446744073709551616 ∧ t ≤ 100000 ∧ ((t = 0 ∧ nextB b = none) ∨ (0 < t ∧ ∃ x, nextB b = some (s, x))) ∧ Kp [] w.heap.size w w' := by
  cases hn : nextB b with
  | none =>
    refine (r13Next_none v b w h hlm hn).mono ?_
    rintro e w' ⟨rfl, k⟩
    exact ⟨0, 0, _, rfl, by omega, by omega, .inl ⟨rfl, rfl⟩, k⟩
  | some q =>
    obtain ⟨s, x⟩ := q
    obtain ⟨i1, i2, -, -⟩ := nextB_inv hn
    refine (r13Next_some v b w h hlm hn).mono ?_
    rintro e w' ⟨⟨vx, rfl, -⟩, k⟩
    exact ⟨s, 16 + x.length, vx, by rfl, i2, by omega, .inr ⟨by omega, x, rfl⟩, k⟩
def againBig (la : List (List UInt8)) (nt nf : Nat) : Bool := decide (8 < la.length) || (decide (300 < total la) || (decide (30 < nt) || decide (5 < nf)))
set_option maxHeartbeats 1600000 in
set_option maxRecDepth 100000 in
theorem again_big (v0 : Value) (a1 : Option Addr) (len1 cap1 : Nat) (a2 : Option Addr) (len2 cap2 : Nat) (n3 : Nat) (w : World) (la : List (List UInt8)) (h0 : RdRows w v0 la) (hb0 : ∀ x ∈ la, x.length ≤ 140737488351232) (hl0 : la.length ≤ 140737488351232) (hl1 : len1 ≤ 140737488351232) (hl2 : len2 ≤ 140737488351232) (hbig : againBig la len1 len2 = true) :
    Calls Try.prog 13 #[v0, .slice a1 len1 cap1, .slice a2 len2 cap2, .int .u8 (n3 : Int)] w fun e w' => e = .returned (.bool true) ∧ Kp [] w.heap.size w w' := by
  have H0 := Lib.hid h0
  have HB0 := Lib.hid hb0
  obtain ⟨a0, cap0, rfl, -, -⟩ := h0
  obtain ⟨m0, hm0⟩ : ∃ m, m = la.length := ⟨_, rfl⟩
  unfold againBig at hbig
  rw [← hm0] at H0 hl0 hbig ⊢
  have HM0 := Lib.hid hm0
  clear hb0 hm0
  by_cases h12 : 8 < m0
  · have d1 : decide (8 < m0) = true := decide_eq_true h12
    have d2 : decide ((8 : Int) < (m0 : Int)) = true := decide_eq_true (by omega)
    clear hbig
    go_enter Try.func13, Try.ntmps13
    go_wp2_with fail
    refine (l14known _).mono ?_
    rintro e w1 ⟨rfl, k1⟩
    go_wp2_with fail
    go_ret
    exact ⟨rfl, k1⟩
  · have d1 : decide (8 < m0) = false := decide_eq_false h12
    have d2 : decide ((8 : Int) < (m0 : Int)) = false := decide_eq_false (by omega)
    rw [d1] at hbig
    simp only [Bool.false_or] at hbig
    cases t0 : decide (300 < total la) with
    | true =>
      clear hbig
      go_enter Try.func13, Try.ntmps13
      go_wp2_with fail
      refine (lmany _ la w H0.out (by rw [← HM0.out]; omega) HB0.out).mono ?_
      rintro e w1 ⟨rfl, rfl⟩
      rw [t0]
      go_wp2_with fail
      refine (l14known _).mono ?_
      rintro e w1 ⟨rfl, k1⟩
      go_wp2_with fail
      go_ret
      exact ⟨rfl, k1⟩
    | false =>
      rw [t0] at hbig
      simp only [Bool.false_or] at hbig
      by_cases h30 : 30 < len1
      · have d3 : decide (30 < len1) = true := decide_eq_true h30
        have d4 : decide ((30 : Int) < (len1 : Int)) = true := decide_eq_true (by omega)
        clear hbig
        go_enter Try.func13, Try.ntmps13
        go_wp2_with fail
        refine (lmany _ la w H0.out (by rw [← HM0.out]; omega) HB0.out).mono ?_
        rintro e w1 ⟨rfl, rfl⟩
        rw [t0]
        go_wp2_with fail
        refine (l14known _).mono ?_
        rintro e w1 ⟨rfl, k1⟩
        go_wp2_with fail
        go_ret
        exact ⟨rfl, k1⟩
      · have d3 : decide (30 < len1) = false := decide_eq_false h30
        have d4 : decide ((30 : Int) < (len1 : Int)) = false := decide_eq_false (by omega)
        rw [d3] at hbig
        simp only [Bool.false_or, decide_eq_true_eq] at hbig
        have d5 : decide (5 < len2) = true := decide_eq_true hbig
        have d6 : decide ((5 : Int) < (len2 : Int)) = true := decide_eq_true (by omega)
        go_enter Try.func13, Try.ntmps13
        go_wp2_with fail
        refine (lmany _ la w H0.out (by rw [← HM0.out]; omega) HB0.out).mono ?_
        rintro e w1 ⟨rfl, rfl⟩
        rw [t0]
        go_wp2_with fail
        refine (l14known _).mono ?_
        rintro e w1 ⟨rfl, k1⟩
        go_wp2_with fail
        go_ret
        exact ⟨rfl, k1⟩
set_option maxHeartbeats 40000000 in
set_option maxRecDepth 100000 in
theorem again_small (v0 : Value) (a1 : Option Addr) (len1 cap1 : Nat) (a2 : Option Addr) (len2 cap2 : Nat) (n3 : Nat) (w : World) (la : List (List UInt8)) (tail fz : List UInt8) (h0 : RdRows w v0 la) (hb0 : ∀ x ∈ la, x.length ≤ 140737488351232) (h1 : BytesV w (fun k => k < w.heap.size) (.slice a1 len1 cap1) tail) (hl1 : tail.length = len1) (h2 : BytesV w (fun k => k < w.heap.size) (.slice a2 len2 cap2) fz) (hl2 : fz.length = len2) (hn3 : n3 < 256) (hsmall : againBig la len1 len2 = false) :
    Calls Try.prog 13 #[v0, .slice a1 len1 cap1, .slice a2 len2 cap2, .int .u8 (n3 : Int)] w fun e w' => e = .returned (.bool true) ∧ Kp [] w.heap.size w w' := by
  have H0 := Lib.hid h0
  have HB0 := Lib.hid hb0
  have HT := Lib.hid h1
  have HF := Lib.hid h2
  have HTL := Lib.hid hl1
  have HFL := Lib.hid hl2
  obtain ⟨a0, cap0, rfl, hcap, -⟩ := h0
  obtain ⟨m0, hm0⟩ : ∃ m, m = la.length := ⟨_, rfl⟩
  unfold againBig at hsmall
  rw [← hm0] at hsmall H0 hcap ⊢
  simp only [Bool.or_eq_false_iff, decide_eq_false_iff_not] at hsmall
  obtain ⟨g1, g2, g3, g4⟩ := hsmall
  have HM0 := Lib.hid hm0
  have d1 : decide (8 < m0) = false := decide_eq_false g1
  have d2 : decide ((8 : Int) < (m0 : Int)) = false := decide_eq_false (by omega)
  have d3 : decide (30 < len1) = false := decide_eq_false g3
  have d4 : decide ((30 : Int) < (len1 : Int)) = false := decide_eq_false (by omega)
  have d5 : decide (5 < len2) = false := decide_eq_false g4
  have d6 : decide ((5 : Int) < (len2 : Int)) = false := decide_eq_false (by omega)
  have t0 : decide (300 < total la) = false := decide_eq_false g2
  have T0 : Hid (total la ≤ 300) := Lib.hid (by omega)
  have hm8 : m0 ≤ 8 := by omega
  have hlen1 : len1 ≤ 30 := by omega
  have hlen2 : len2 ≤ 5 := by omega
  have E0 := Lib.hid (open_new 20000)
  have HS0 := Lib.hid (Ag0.start la)
  clear hb0 h1 h2 hl1 hl2 hm0 g1 g2 g3 g4
  go_enter Try.func13, Try.ntmps13
  go_wp2_with fail
  refine (lmany _ la w H0.out (by rw [← HM0.out]; omega) HB0.out).mono ?_
  rintro e w1 ⟨rfl, rfl⟩
  rw [t0]
  go_wp2_with fail
  refine (dNew (fun _ => False) 20000 _ (by omega) ⟨id, id⟩).mono ?_
  rintro e w1 ⟨rfl, h1, k1⟩
  have hz1 := h1.lt
  obtain ⟨A, hA⟩ : ∃ A : Nat → Prop, A = fun k => w1.heap.size ≤ k := ⟨_, rfl⟩
  have h1' : IsDisk w1 A (w.heap.size + 1) w.heap.size (Dk.new 20000) := h1.widen (fun _ h => h.elim) (by rw [hA]; exact ⟨by omega, by omega⟩)
  have HA := Lib.hid hA
  have HD1 := Lib.hid h1'
  have K1 := Lib.hid k1
  clear h1 h1' k1 hA d1 d2 t0 d3 d4 d5 d6
  go_wp2_with fail
  refine (wOpen w1 HD1.out (fun k hk => by rw [HA.out]; exact hk)).mono ?_
  rintro e w2 h2
  rw [E0.out] at h2
  obtain ⟨lb0, vx, vl, rfl, hl2, hx2, hr2, hlb, hlb2, k2⟩ := (h2.ok rfl).log HD1.out (by decide)
  obtain ⟨ax, cx, rfl, -, -, -⟩ := hx2
  obtain ⟨al, cl, rfl, -, -⟩ := hr2.shape
  obtain ⟨A2, hA2⟩ : ∃ A2 : Nat → Prop, A2 = fun k => A k ∧ k ≠ lb0 := ⟨_, rfl⟩
  have hAge : ∀ k, w2.heap.size ≤ k → A2 k := fun k hk => by rw [hA2, HA.out]; exact ⟨by show w1.heap.size ≤ k; have := k2.size; omega, by omega⟩
  rw [← hA2] at hl2
  have HL2 := Lib.hid hl2
  have K2 := Lib.hid (K1.out.trans (k2.shed (B' := w.heap.size) (by simp) (by omega)))
  have HAge := Lib.hid hAge
  have hge : w.heap.size ≤ lb0 := by omega
  clear h2 hl2 hr2 k2 hA2 hAge
  go_wp2_with fail
  go_loopw [14] (fun i wr => ∃ (k : Nat) (l : Lg), k ≤ m0 ∧ i = .int .i64 (k : Int) ∧ Hid (Ag0 la k l ∧ IsLog wr A2 lb0 (w.heap.size + 1) w.heap.size l ∧ Kp [] w.heap.size w wr ∧ w2.heap.size ≤ wr.heap.size)) (fun i _ => m0 - (intOf i).toNat)
  case atStart => exact ⟨0, _, by omega, rfl, HS0.out, HL2.out, K2.out, Nat.le_refl _⟩
  case round =>
    obtain ⟨k, l, hk, rfl, HI⟩ := hrel
    obtain ⟨hF, hL, hKr, hzr⟩ := HI.out
    by_cases hlt : k < m0
    · have hkL : k < la.length := by rw [← HM0.out]; exact hlt
      obtain ⟨l', e1, hF'⟩ := hF.step hkL (by rw [← HM0.out]; omega) T0.out
      obtain ⟨xo, so, sn, sc, hxo, hxb, hcell, hsn, hbv⟩ := RdRows.elem H0.out k hkL
      subst hxo
      have hcr := (hKr.cell (p := xo.add k) (by rw [add_block]; exact hxb) (by simp)).trans hcell
      have HBr := Lib.hid (hbv.kp hKr (by simp))
      have HLr := Lib.hid hL
      have HKr := Lib.hid hKr
      have HF' := Lib.hid hF'
      have E1 := Lib.hid e1
      clear hF hL hKr HI hxb hcell hsn hbv hF' e1
      go_wp2_with fail
      refine (wAppend wr HLr.out _ _ HBr.out (fun k hk => HAge.out k (by omega))).mono ?_
      rintro e w3 ⟨rfl, h3, k3⟩
      rw [E1.out] at h3 ⊢
      have HK3 := Lib.hid (HKr.out.trans (k3.shed (B' := w.heap.size) (by simp; omega) HKr.out.size))
      have hz3 := k3.size
      have H3 := Lib.hid h3
      clear h3 k3
      go_wp2_with fail
      go_roundw
      case rel => exact ⟨k + 1, l', by omega, by go_num, HF'.out, H3.out, HK3.out, by omega⟩
      case measure => simp [intOf]; omega
    · have hkm : m0 = k := by omega
      have hF2 : Ag0 la la.length l := by rw [← HM0.out, hkm]; exact hF
      obtain ⟨d1, e1, hI⟩ := hF2.tail (by rw [← HM0.out]; omega) T0.out (tail := tail) (by have := HTL.out; omega)
      have E1 := Lib.hid e1
      have HI0 := Lib.hid hI
      have HLr := Lib.hid hL
      have HKr := Lib.hid hKr
      have HTr := Lib.hid (HT.out.kp hKr (by simp))
      subst hkm
      clear hF hL hKr HI hF2 e1 hI
      go_wp2_with fail
      refine (dAppend A2 _ _ l.d sLog tail _ _ wr HLr.out.2.1 (by decide) HTr.out (by omega) (by have := HTL.out; omega) (fun k hk => HAge.out k (by omega))).mono ?_
      rintro e w3 ⟨rfl, h3, k3⟩
      rw [E1.out] at h3 ⊢
      have HK3 := Lib.hid (HKr.out.trans (k3.shed (B' := w.heap.size) (by simp) HKr.out.size))
      have hz3 : w2.heap.size ≤ w3.heap.size := Nat.le_trans hzr k3.size
      have HD3 := Lib.hid h3
      clear h3 k3 HLr HKr HTr E1 hzr
      go_wp2_with fail
      go_loopw [15] (fun i wr => ∃ (j : Nat) (d : Dk), j ≤ len2 ∧ i = .int .i64 (j : Int) ∧ Hid (AgI la tail j d ∧ IsDisk wr A2 (w.heap.size + 1) w.heap.size d ∧ Kp [] w.heap.size w wr ∧ w2.heap.size ≤ wr.heap.size)) (fun i _ => len2 - (intOf i).toNat)
      case atStart => exact ⟨0, d1, by omega, rfl, HI0.out, HD3.out, HK3.out, hz3⟩
      case round =>
        obtain ⟨j, d, hj, rfl, HI⟩ := hrel
        obtain ⟨hG, hD, hKr, hzr⟩ := HI.out
        have HG := Lib.hid hG
        have HD := Lib.hid hD
        have HKr := Lib.hid hKr
        clear hG hD hKr HI
        by_cases hlt2 : j < len2
        · have hjf : j < fz.length := by rw [HFL.out]; exact hlt2
          have HFr := HF.out.kp HKr.out (by simp)
          obtain ⟨xa, rfl, hxc⟩ := HFr.at hjf
          obtain ⟨c, hc⟩ : ∃ c, c = (fz[j]).toNat := ⟨_, rfl⟩
          have hc8 : c < 256 := by rw [hc]; exact UInt8.toNat_lt _
          rw [← hc] at hxc
          have hcapf : len2 ≤ cap2 := by have := HF.out.cap; have := HFL.out; omega
          have HR := Lib.hid (HG.out.round (by omega) (by rw [← HM0.out]; omega) T0.out (c : Int) (n3 : Int))
          clear HFr hc
          go_wp2_with fail
          refine (dFuse A2 _ _ d (c : Int) wr HD.out (by omega)).mono ?_
          rintro e w4 ⟨rfl, h4, k4⟩
          have HK4 := Lib.hid (HKr.out.trans (k4.shed (B' := w.heap.size) (by simp) HKr.out.size))
          have hz4 : w2.heap.size ≤ w4.heap.size := Nat.le_trans hzr k4.size
          have HD4 := Lib.hid h4
          clear h4 k4 hxc
          go_wp2_with fail
          refine (wOpen w4 HD4.out (fun k hk => HAge.out k (by omega))).mono ?_
          rintro e w5 h5
          obtain ⟨u1, u2, u3, u4, rfl, hd5, k5⟩ := h5.any HD4.out
          have HK5 := Lib.hid (HK4.out.trans (k5.shed (B' := w.heap.size) (by simp) HK4.out.size))
          have hz5 : w2.heap.size ≤ w5.heap.size := Nat.le_trans hz4 k5.size
          have HD5 := Lib.hid hd5
          clear h5 hd5 k5
          go_wp2_with fail
          refine (dCrash A2 _ _ _ (n3 : Int) w5 HD5.out (by omega)).mono ?_
          rintro e w6 ⟨rfl, hd6, k6⟩
          have HK6 := Lib.hid (HK5.out.trans (k6.shed (B' := w.heap.size) (by simp) HK5.out.size))
          have hz6 : w2.heap.size ≤ w6.heap.size := Nat.le_trans hz5 k6.size
          have HD6 := Lib.hid hd6
          clear hd6 k6
          go_wp2_with fail
          go_roundw
          case rel => exact ⟨j + 1, _, by omega, by go_num, HR.out, HD6.out, HK6.out, hz6⟩
          case measure => simp [intOf]; omega
        · have hjl : len2 = j := by omega
          obtain ⟨d', rows, q, hop, hq, hrl, hC⟩ := HG.out.last (by omega) (by rw [← HM0.out]; omega) T0.out
          have HC := Lib.hid hC
          have HOP := Lib.hid hop
          obtain ⟨rn, hrn⟩ : ∃ rn, rn = rows.length := ⟨_, rfl⟩
          have hrn5 : rn ≤ 500 := by omega
          have HRN := Lib.hid hrn
          subst hjl
          clear hop hC hrl hrn
          go_wp2_with fail
          refine (wOpen wr HD.out (fun k hk => HAge.out k (by omega))).mono ?_
          rintro e w4 h4
          rw [HOP.out] at h4
          obtain ⟨lb4, vx4, vl4, rfl, hl4, hx4, hr4, hlb4, hlb42, k4⟩ := (h4.ok rfl).log HD.out hq
          obtain ⟨ax4, cx4, hvx4, -, -, -⟩ := hx4
          rw [List.length_nil] at hvx4
          subst hvx4
          have HRR4 := Lib.hid (RdRows.of_own hr4)
          obtain ⟨al4, cl4, rfl, -, -⟩ := hr4.shape
          rw [← HRN.out] at HRR4 ⊢
          have HD4 := Lib.hid hl4.2.1
          have K4 := Lib.hid (HKr.out.trans (k4.shed (B' := w.heap.size) (by simp) HKr.out.size))
          have hole := (old_len hl4.2.1.ok sLog).1
          clear h4 hl4 hr4 k4
          go_wp2_with fail
          refine (dRead _ _ _ d' sLog w4 HD4.out (by decide)).mono ?_
          rintro e w5 ⟨vy, rfl, hy5, k5⟩
          obtain ⟨oy, ny, cy, rfl, hny⟩ := own_shape hy5
          obtain ⟨yl, hyl⟩ : ∃ yl, yl = (d'.old sLog).b.length := ⟨_, rfl⟩
          obtain rfl : yl = ny := by rw [hyl]; exact hny.symm
          obtain ⟨th, hth⟩ : ∃ th, th = d'.there sLog := ⟨_, rfl⟩
          rw [← hyl] at hole
          rw [← hth]
          have HYL := Lib.hid hyl
          have HTHE := Lib.hid hth
          have K5 := Lib.hid (K4.out.trans (k5.mono (by simp) K4.out.size))
          have HRR := Lib.hid (HRR4.out.kp k5)
          clear hy5 k5 hyl hth hny
          go_wp2_with fail
          go_loop [22, 23] (fun n i => ∃ k : Nat, k ≤ m0 ∧ i = .int .i64 (k : Int) ∧ ∃ N : Nat, n = .int .i64 (N : Int) ∧ N ≤ 500 ∧ Hid (N = 16 * k + total (la.take k))) (fun _ i => m0 - (intOf i).toNat)
          case atStart => exact ⟨0, by omega, rfl, 0, rfl, by omega, by show 0 = _; simp [total]⟩
          case round =>
            obtain ⟨k, hk, rfl, N, rfl, hN, HNN⟩ := hrel
            by_cases hlt3 : k < m0
            · have hkL : k < la.length := by rw [← HM0.out]; exact hlt3
              obtain ⟨xo, so, sn, sc, hxo, hxb, hcell, hsn, hbv⟩ := RdRows.elem H0.out k hkL
              subst hxo
              have hcr := (K5.out.cell (p := xo.add k) (by rw [add_block]; exact hxb) (by simp)).trans hcell
              have HTK := Lib.hid (total_take la k hkL)
              have hle := total_take_le la (k + 1)
              have hs3 : N + (16 + sn) ≤ 500 := by have := HTK.out; have := HNN.out; have := T0.out; omega
              have HSN := Lib.hid hsn
              clear hxb hcell hsn hbv hle
              go_wp2
              go_round
              case rel => exact ⟨k + 1, by omega, by go_num, N + (16 + sn), by go_num, hs3, by show N + (16 + sn) = 16 * (k + 1) + total (la.take (k + 1)); rw [HTK.out, HNN.out, HSN.out]; omega⟩
              case measure => simp [intOf]; omega
            · have hkm : m0 = k := by omega
              have HNW : Hid (N = 16 * la.length + total la) := by
                have e := HNN.out
                rw [← hkm, HM0.out, List.take_length] at e
                exact e
              subst hkm
              obtain ⟨Q, hQ⟩ : ∃ Q, Q = m0 + 1 := ⟨_, rfl⟩
              have hQI : (m0 : Int) + 1 = (Q : Int) := by omega
              have HQ := Lib.hid hQ
              have hQ9 : Q ≤ 9 := by omega
              have HT5 := Lib.hid (HT.out.kp K5.out (by simp))
              clear hQ
              go_wp2_with fail
              refine (r13All _ tail Q w5 HT5.out (by have := HTL.out; omega) (by omega)).mono ?_
              rintro e w7 ⟨vf, rfl, hf7, k7⟩
              obtain ⟨of7, cf7, rfl, -, -⟩ := hf7.shape
              obtain ⟨nf, hnf⟩ : ∃ nf, nf = (allB tail Q).1.length := ⟨_, rfl⟩
              have hale := allB_le tail.length tail Q (Nat.le_refl _)
              obtain ⟨ne, hne⟩ : ∃ ne, ne = (allB tail Q).2 := ⟨_, rfl⟩
              have hnf30 : nf ≤ 30 := by have := HTL.out; omega
              have hne30 : ne ≤ 30 := by have := HTL.out; omega
              rw [← hnf, ← hne]
              have HNF := Lib.hid hnf
              have K7 := Lib.hid (K5.out.trans (k7.mono (by simp) K5.out.size))
              have KR7 := Lib.hid k7
              have HT7 := Lib.hid (HT.out.kp K7.out (by simp))
              clear hf7 k7 hale hnf hne
              go_wp2_with fail
              refine (r13Next_any _ tail w7 HT7.out (by have := HTL.out; omega)).mono ?_
              rintro e w8 ⟨s, t, vx8, rfl, hs64, ht, hst, k8⟩
              have HST := Lib.hid hst
              have KX := Lib.hid (K7.out.trans (k8.mono (by simp) K7.out.size))
              have KRX := Lib.hid (KR7.out.trans (k8.mono (by simp) KR7.out.size))
              clear k8 hst
              by_cases hearly : m0 = 0 ∧ 0 < t ∧ s = 0
              · obtain ⟨hm, ht0, hs0⟩ := hearly
                have b1 : decide ((m0 : Int) = 0) = true := decide_eq_true (by omega)
                have b2 : ((m0 : Int) == 0) = true := by simp; omega
                have t1 : decide ((0 : Int) < (t : Int)) = true := decide_eq_true (by omega)
                have c1 : ((s : Int) == 0) = true := by simp; omega
                have c2 : decide ((s : Int) = 0) = true := decide_eq_true (by omega)
                go_wp2_with fail
                refine (l14known _).mono ?_
                rintro e w9 ⟨rfl, k9⟩
                have K9 := Lib.hid (KX.out.trans (k9.mono (by simp) KX.out.size))
                go_wp2_with fail
                go_ret
                exact ⟨rfl, K9.out⟩
              · have HCN : Hid (nf = 0 → CondT la tail) := fun hnf => ⟨by
                  have e := HNF.out
                  rw [hnf] at e
                  rw [← HM0.out, ← HQ.out]
                  exact List.length_eq_zero_iff.1 e.symm, fun e x hx => by
                    rcases HST.out with ⟨_, h⟩ | ⟨h1, y, h2⟩
                    · rw [h] at hx; cases hx
                    · rw [h2] at hx; injection hx with hx; injection hx with hx _
                      exact hearly ⟨by rw [HM0.out, e]; rfl, h1, hx⟩⟩
                clear HST HNF HT7 HT HF HTL HFL HG HD HKr E0 HS0 HB0 HA HD1 K1 HL2 K2 HAge HI0 HD3 HK3 HOP HQ HRR4 HD4 K4 HNN HT5 hQ9 hQI hcap hole hnf30 hne30
                go_upto_region 28 with fail
                go_cut [143] (fun c wx => c = .bool false ∧ Hid (wx = w8))
                case first =>
                  by_cases hm : m0 = 0
                  · have b1 : decide ((m0 : Int) = 0) = true := decide_eq_true (by omega)
                    have b2 : ((m0 : Int) == 0) = true := by simp; omega
                    by_cases ht0 : 0 < t
                    · have hs0 : ¬ s = 0 := fun h => hearly ⟨hm, ht0, h⟩
                      have t1 : decide ((0 : Int) < (t : Int)) = true := decide_eq_true (by omega)
                      have c1 : ((s : Int) == 0) = false := by simp; omega
                      have c2 : decide ((s : Int) = 0) = false := decide_eq_false (by omega)
                      go_wp2
                      go_meet
                      exact ⟨rfl, rfl⟩
                    · have t1 : decide ((0 : Int) < (t : Int)) = false := decide_eq_false (by omega)
                      go_wp2
                      go_meet
                      exact ⟨rfl, rfl⟩
                  · have b1 : decide ((m0 : Int) = 0) = false := decide_eq_false (by omega)
                    have b2 : ((m0 : Int) == 0) = false := by simp; omega
                    go_wp2
                    go_meet
                    exact ⟨rfl, rfl⟩
                case rest =>
                  obtain ⟨rfl, hcut⟩ := hcut
                  obtain rfl := hcut.out
                  clear hcut hearly
                  by_cases hnf : nf = 0
                  · have hcond := HCN.out hnf
                    have g0 : decide ((0 : Int) < (nf : Int)) = false := decide_eq_false (by omega)
                    have g1 : decide (0 < nf) = false := decide_eq_false (by omega)
                    obtain ⟨hrw, hyl, hth⟩ := HC.out hcond
                    have hyl2 : yl = N := by rw [HYL.out, hyl, HNW.out]
                    have hRW := HRR.out
                    rw [hrw] at hRW
                    have hrn : m0 = rn := by rw [HRN.out, hrw, HM0.out]
                    subst hyl2
                    subst hrn
                    have HRW := Lib.hid hRW
                    have HTH : Hid (th = true ∨ yl = 0) := by rcases hth with h | h; exact .inl (HTHE.out.trans h); exact .inr (HNW.out.trans h)
                    clear hrw hyl hth hRW hcond
                    go_wp2_with fail
                    refine (l14known _).mono ?_
                    rintro e w9 ⟨rfl, k9⟩
                    have K9 := Lib.hid (KX.out.trans (k9.mono (by simp) KX.out.size))
                    have HW9 := Lib.hid (HRW.out.kp (KRX.out.trans (k9.mono (by simp) KRX.out.size)))
                    have H09 := Lib.hid (H0.out.kp K9.out)
                    clear k9
                    go_wp2_with fail
                    refine (lsame _ _ la w9 HW9.out H09.out (by have := HM0.out; omega)).mono ?_
                    rintro e w10 ⟨rfl, k10⟩
                    have K10 := Lib.hid (K9.out.trans (k10.mono (by simp) K9.out.size))
                    clear k10
                    cases th with
                    | true =>
                      go_wp2_with fail
                      go_ret
                      exact ⟨rfl, K10.out⟩
                    | false =>
                      obtain rfl : yl = 0 := by rcases HTH.out with h | h; cases h; exact h
                      go_wp2_with fail
                      go_ret
                      exact ⟨rfl, K10.out⟩
                  · have g0 : decide ((0 : Int) < (nf : Int)) = true := decide_eq_true (by omega)
                    have g1 : decide (0 < nf) = true := decide_eq_true (by omega)
                    go_wp2_with fail
                    refine (l14known _).mono ?_
                    rintro e w9 ⟨rfl, k9⟩
                    have K9 := Lib.hid (KX.out.trans (k9.mono (by simp) KX.out.size))
                    clear k9
                    go_wp2_with fail
                    go_ret
                    exact ⟨rfl, K9.out⟩
theorem walAgain_row (a0 : Option Addr) (len0 cap0 : Nat) (rs0 : List (Value × List UInt8)) (a1 : Option Addr) (len1 cap1 : Nat) (z1 : List Int) (a2 : Option Addr) (len2 cap2 : Nat) (z2 : List Int) (a3 : Int) (w : World) (w0 : RowsV w a0 len0 cap0 rs0) (y0 : len0 * 24 ≤ 140737488351232)
    (w1 : (a1 = none ∧ len1 = 0 ∧ cap1 = 0 ∧ z1 = []) ∨ ∃ x, a1 = some x ∧ len1 ≤ cap1 ∧ cap1 ≤ maxLen ∧ z1.length = cap1 ∧ (∀ i, i < z1.length → w.cell? (x.add i) = some (.int .u8 (z1.getD i 0))) ∧ ∀ n ∈ z1, (Lit.int .u8 n).wf = true) (y1 : len1 * 1 ≤ 140737488351232)
    (w2 : (a2 = none ∧ len2 = 0 ∧ cap2 = 0 ∧ z2 = []) ∨ ∃ x, a2 = some x ∧ len2 ≤ cap2 ∧ cap2 ≤ maxLen ∧ z2.length = cap2 ∧ (∀ i, i < z2.length → w.cell? (x.add i) = some (.int .u8 (z2.getD i 0))) ∧ ∀ n ∈ z2, (Lit.int .u8 n).wf = true) (y2 : len2 * 1 ≤ 140737488351232) (w3 : (Lit.int .u8 a3).wf = true) :
    Calls Try.prog 13 #[.slice a0 len0 cap0, .slice a1 len1 cap1, .slice a2 len2 cap2, .int .u8 a3] w fun e w' => e = .returned (.bool true) ∧ Below w.heap.size w w' := by
  obtain ⟨s, hls, hS⟩ := row_bytesW w1
  obtain ⟨fz, hlf, hF⟩ := row_bytesW w2
  obtain ⟨n3, hn3, rfl⟩ := u8_natW w3
  have hla : (rs0.map (·.2)).length = len0 := by simp [w0.1]
  cases hbig : againBig (rs0.map (·.2)) len1 len2 with
  | true => exact (again_big _ a1 len1 cap1 a2 len2 cap2 n3 w _ (RdRows.of_in w0) w0.short (by omega) (by omega) (by omega) hbig).mono fun e w' ⟨h1, h2⟩ => ⟨h1, h2.below⟩
  | false => exact (again_small _ a1 len1 cap1 a2 len2 cap2 n3 w _ s fz (RdRows.of_in w0) w0.short hS hls hF hlf hn3 hbig).mono fun e w' ⟨h1, h2⟩ => ⟨h1, h2.below⟩
end Go.Proofs.Ytdabflkejhoghaa.Hand
