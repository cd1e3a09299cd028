/- WalPacks: the walk. -/
import Derived.Below
import Derived.Deep.Draws
import Derived.Deep.AppendLies
import Derived.Maps.AppendAt
import Derived.OwnWalk
import Derived.Laws.BytesArg
import Derived.Laws.MakeOwn
import Derived.Laws.OwnMore
import Derived.Deep.OwnRows
import Derived.Tactics
import Derived.Lib.ConvBytes
import Derived.Laws.Slices
import Derived.WalkKit
import Derived.KernelRfl
import Derived.RowKit3
import Derived.Deep.LoopGhost
import Derived.Deep.QuietTactic
import Derived.BigQuiet
import Derived.WideLaws
import Derived.Deep.DeepCutAuto
import Derived.Deep.CutBlock
import Derived.Deep.RegionHeld3
import Derived.Laws.Rows
import Derived.Lib.AppendStr
import Derived.ArgAppend
import Derived.Laws.IdiomCopy
import Derived.OrdersHeld
import Derived.Laws.BitsLemmas
import Derived.RowKit
import Derived.Outline
import Derived.Maps.Own
import Derived.Maps.OwnOps
import Derived.Maps.OwnSet
import Derived.Maps.Views
import Derived.Maps.RangeWalk
import Derived.Maps.Ext
import Derived.RangeFuncOwn
import Derived.OneCell
import Derived.Deep.DeepMust
import Derived.Lib.Hide
import Derived.StillTailTactics
import Derived.Laws.AppendOwnNone
import Derived.WalkMore
import Derived.Lib.SlBytesConst
import Derived.WalkLawsBesides
import Derived.Laws.BitsAllLaws
import Derived.Test.YtdabflkejhoghaaHKc
import Derived.Test.YtdabflkejhoghaaHCu
namespace Go.Proofs.Ytdabflkejhoghaa.Hand
open Go Go.RowKit Go.Maps Go.WideMaps
set_option linter.unusedVariables false
set_option linter.unusedSimpArgs false
theorem RunI.lift {room base : Nat} {S : Option F} {U : Nat} {l : Lg} (L : List (List UInt8)) (h : RunI room base S U [] 0 l) : RunI room base S U L 0 l := ⟨by simpa using h.calm, by simpa [total] using h.used, h.snap⟩
/-- the guard of WalPacks -/
def packsBig (la lb : List (List UInt8)) (s : List UInt8) : Bool := decide (12 < la.length + lb.length) || (decide (300 < total la) || (decide (300 < total lb) || decide (100 < s.length)))
set_option maxHeartbeats 1600000 in
set_option maxRecDepth 100000 in
theorem packs_big (v0 v1 : Value) (a2 : Option Addr) (len2 cap2 : Nat) (ag : Bool) (w : World) (la lb : List (List UInt8)) (s : List UInt8) (h0 : RdRows w v0 la) (h1 : RdRows w v1 lb) (hs : s.length = len2) (hb0 : ∀ x ∈ la, x.length ≤ 140737488351232) (hb1 : ∀ x ∈ lb, x.length ≤ 140737488351232) (hl0 : la.length ≤ 140737488351232) (hl1 : lb.length ≤ 140737488351232) (hl2 : s.length ≤ 140737488351232) (hbig : packsBig la lb s = true) :
    Calls Try.prog 4 #[v0, v1, .slice a2 len2 cap2, .bool ag] w fun e w' => e = .returned (.bool true) ∧ Kp [] w.heap.size w w' := by
  have H0 := Lib.hid h0
  have H1 := Lib.hid h1
  have HB0 := Lib.hid hb0
  have HB1 := Lib.hid hb1
  obtain ⟨a0, cap0, rfl, -, -⟩ := h0
  obtain ⟨a1, cap1, rfl, -, -⟩ := h1
  obtain ⟨m0, hm0⟩ : ∃ m, m = la.length := ⟨_, rfl⟩
  obtain ⟨m1, hm1⟩ : ∃ m, m = lb.length := ⟨_, rfl⟩
  unfold packsBig at hbig
  rw [hs] at hbig
  rw [← hm0, ← hm1] at hbig
  rw [← hm0] at H0 hl0 ⊢
  rw [← hm1] at H1 hl1 ⊢
  have HM0 := Lib.hid hm0
  have HM1 := Lib.hid hm1
  clear hb0 hb1 hm0 hm1
  by_cases h12 : 12 < m0 + m1
  · have d1 : decide (12 < m0 + m1) = true := decide_eq_true h12
    have d2 : decide ((12 : Int) < (m0 : Int) + (m1 : Int)) = true := decide_eq_true (by omega)
    clear hbig
    go_enter Try.func4, Try.ntmps4
    go_wp2_with fail
    refine (l14known _).mono ?_
    rintro e w1 ⟨rfl, k1⟩
    go_wp2_with fail
    go_ret
    exact ⟨rfl, k1⟩
  · have d1 : decide (12 < m0 + m1) = false := decide_eq_false h12
    have d2 : decide ((12 : Int) < (m0 : Int) + (m1 : Int)) = false := decide_eq_false (by omega)
    rw [d1] at hbig
    simp only [Bool.false_or] at hbig
    cases t0 : decide (300 < total la) with
    | true =>
      clear hbig
      go_enter Try.func4, Try.ntmps4
      go_wp2_with fail
      refine (lmany _ la w H0.out (by rw [← HM0.out]; omega) HB0.out).mono ?_
      rintro e w1 ⟨rfl, rfl⟩
      rw [t0]
      go_wp2_with fail
      refine (l14known _).mono ?_
      rintro e w1 ⟨rfl, k1⟩
      go_wp2_with fail
      go_ret
      exact ⟨rfl, k1⟩
    | false =>
      rw [t0] at hbig
      simp only [Bool.false_or] at hbig
      cases t1 : decide (300 < total lb) with
      | true =>
        clear hbig
        go_enter Try.func4, Try.ntmps4
        go_wp2_with fail
        refine (lmany _ la w H0.out (by rw [← HM0.out]; omega) HB0.out).mono ?_
        rintro e w1 ⟨rfl, rfl⟩
        rw [t0]
        go_wp2_with fail
        refine (lmany _ lb w H1.out (by rw [← HM1.out]; omega) HB1.out).mono ?_
        rintro e w1 ⟨rfl, rfl⟩
        rw [t1]
        go_wp2_with fail
        refine (l14known _).mono ?_
        rintro e w1 ⟨rfl, k1⟩
        go_wp2_with fail
        go_ret
        exact ⟨rfl, k1⟩
      | false =>
        rw [t1] at hbig
        simp only [Bool.false_or, decide_eq_true_eq] at hbig
        have d5 : decide (100 < len2) = true := decide_eq_true hbig
        have d6 : decide ((100 : Int) < (len2 : Int)) = true := decide_eq_true (by omega)
        go_enter Try.func4, Try.ntmps4
        go_wp2_with fail
        refine (lmany _ la w H0.out (by rw [← HM0.out]; omega) HB0.out).mono ?_
        rintro e w1 ⟨rfl, rfl⟩
        rw [t0]
        go_wp2_with fail
        refine (lmany _ lb w H1.out (by rw [← HM1.out]; omega) HB1.out).mono ?_
        rintro e w1 ⟨rfl, rfl⟩
        rw [t1]
        go_wp2_with fail
        refine (l14known _).mono ?_
        rintro e w1 ⟨rfl, k1⟩
        go_wp2_with fail
        go_ret
        exact ⟨rfl, k1⟩
set_option maxHeartbeats 4000000 in
set_option maxRecDepth 100000 in
theorem packs_small (v0 v1 : Value) (a2 : Option Addr) (len2 cap2 : Nat) (ag : Bool) (w : World) (la lb : List (List UInt8)) (s : List UInt8) (h0 : RdRows w v0 la) (h1 : RdRows w v1 lb) (h2 : BytesV w (fun k => k < w.heap.size) (.slice a2 len2 cap2) s) (hs : s.length = len2) (hb0 : ∀ x ∈ la, x.length ≤ 140737488351232) (hb1 : ∀ x ∈ lb, x.length ≤ 140737488351232) (hsmall : packsBig la lb s = false) :
    Calls Try.prog 4 #[v0, v1, .slice a2 len2 cap2, .bool ag] w fun e w' => e = .returned (.bool true) ∧ Kp [] w.heap.size w w' := by
  have H0 := Lib.hid h0
  have H1 := Lib.hid h1
  have H2 := Lib.hid h2
  have HB0 := Lib.hid hb0
  have HB1 := Lib.hid hb1
  obtain ⟨a0, cap0, rfl, -, -⟩ := h0
  obtain ⟨a1, cap1, rfl, -, -⟩ := h1
  obtain ⟨m0, hm0⟩ : ∃ m, m = la.length := ⟨_, rfl⟩
  obtain ⟨m1, hm1⟩ : ∃ m, m = lb.length := ⟨_, rfl⟩
  unfold packsBig at hsmall
  rw [← hm0, ← hm1] at hsmall
  simp only [Bool.or_eq_false_iff, decide_eq_false_iff_not] at hsmall
  obtain ⟨g1, g2, g3, g4⟩ := hsmall
  rw [← hm0] at H0 ⊢
  rw [← hm1] at H1 ⊢
  have HM0 := Lib.hid hm0
  have HM1 := Lib.hid hm1
  have HS := Lib.hid hs
  have d1 : decide (12 < m0 + m1) = false := decide_eq_false g1
  have d2 : decide ((12 : Int) < (m0 : Int) + (m1 : Int)) = false := decide_eq_false (by omega)
  have t0 : decide (300 < total la) = false := decide_eq_false g2
  have t1 : decide (300 < total lb) = false := decide_eq_false g3
  have d5 : decide (100 < len2) = false := decide_eq_false (by omega)
  have d6 : decide ((100 : Int) < (len2 : Int)) = false := decide_eq_false (by omega)
  have T0 : Hid (total la ≤ 300) := Lib.hid (by omega)
  have T1 : Hid (total lb ≤ 300) := Lib.hid (by omega)
  have SL : Hid (s.length ≤ 100) := Lib.hid (by omega)
  have E0 := Lib.hid (open_new 20000)
  have R0 := Lib.hid (RunI.start la)
  obtain ⟨Q, hQ⟩ : ∃ Q, Q = m0 + m1 := ⟨_, rfl⟩
  have hQI : (m0 : Int) + (m1 : Int) = (Q : Int) := by omega
  have HQ := Lib.hid hQ
  have hQ12 : Q ≤ 12 := by omega
  clear h2 hb0 hb1 hm0 hm1 hs g1 g2 g3 g4 hQ
  go_enter Try.func4, Try.ntmps4
  go_wp2_with fail
  refine (lmany _ la w H0.out (by rw [← HM0.out]; omega) HB0.out).mono ?_
  rintro e w1 ⟨rfl, rfl⟩
  rw [t0]
  go_wp2_with fail
  refine (lmany _ lb w H1.out (by rw [← HM1.out]; omega) HB1.out).mono ?_
  rintro e w1 ⟨rfl, rfl⟩
  rw [t1]
  go_wp2_with fail
  refine (dNew (fun _ => False) 20000 _ (by omega) ⟨id, id⟩).mono ?_
  rintro e w1 ⟨rfl, h1, k1⟩
  have hz1 := h1.lt
  obtain ⟨A, hA⟩ : ∃ A : Nat → Prop, A = fun k => w1.heap.size ≤ k := ⟨_, rfl⟩
  have h1' : IsDisk w1 A (w.heap.size + 1) w.heap.size (Dk.new 20000) := h1.widen (fun _ h => h.elim) (by rw [hA]; exact ⟨by omega, by omega⟩)
  have HA := Lib.hid hA
  have HD1 := Lib.hid h1'
  have K1 := Lib.hid k1
  clear h1 h1' k1 hA d1 d2 t0 t1 d5 d6
  go_wp2_with fail
  refine (wOpen w1 HD1.out (fun k hk => by rw [HA.out]; exact hk)).mono ?_
  rintro e w2 h2
  rw [E0.out] at h2
  obtain ⟨lb0, vx, vl, rfl, hl2, hx2, hr2, hlb, hlb2, k2⟩ := (h2.ok rfl).log HD1.out (by decide)
  obtain ⟨ax, cx, rfl, -, -, -⟩ := hx2
  obtain ⟨al, cl, rfl, -, -⟩ := hr2.shape
  obtain ⟨A2, hA2⟩ : ∃ A2 : Nat → Prop, A2 = fun k => A k ∧ k ≠ lb0 := ⟨_, rfl⟩
  have hAge : ∀ k, w2.heap.size ≤ k → A2 k := fun k hk => by rw [hA2, HA.out]; exact ⟨by show w1.heap.size ≤ k; have := k2.size; omega, by omega⟩
  rw [← hA2] at hl2
  have HL2 := Lib.hid hl2
  have K2 := Lib.hid (K1.out.trans (k2.shed (B' := w.heap.size) (by simp) (by omega)))
  have HAge := Lib.hid hAge
  clear h2 hl2 hr2 k2 hA2 hAge
  go_wp2_with fail
  go_loopw [14] (fun i wr => ∃ (j : Nat) (l : Lg), j ≤ m0 ∧ i = .int .i64 (j : Int) ∧ Hid (RunI 20000 0 none 0 la j l ∧ IsLog wr A2 lb0 (w.heap.size + 1) w.heap.size l ∧ Kp [] w.heap.size w wr ∧ w2.heap.size ≤ wr.heap.size)) (fun i _ => m0 - (intOf i).toNat)
  case atStart => exact ⟨0, ⟨Dk.new 20000, 0, false⟩, by omega, rfl, R0.out, HL2.out, K2.out, Nat.le_refl _⟩
  case round =>
    obtain ⟨j, l, hj, rfl, HI⟩ := hrel
    obtain ⟨hF, hL, hKr, hzr⟩ := HI.out
    have hge : w.heap.size ≤ lb0 := by omega
    by_cases hlt : j < m0
    · have hjL : j < la.length := by rw [← HM0.out]; exact hlt
      obtain ⟨l', e1, hF'⟩ := hF.step hjL (by rw [← HM0.out]; omega) T0.out (by omega) (by omega)
      obtain ⟨xo, so, sn, sc, hxo, hxb, hcell, hsn, hbv⟩ := RdRows.elem H0.out j hjL
      subst hxo
      have hcr := (hKr.cell (p := xo.add j) (by rw [add_block]; exact hxb) (by simp)).trans hcell
      have HBr := Lib.hid (hbv.kp hKr (by simp))
      have HLr := Lib.hid hL
      have HKr := Lib.hid hKr
      have HF' := Lib.hid hF'
      have E1 := Lib.hid e1
      clear hF hL hKr HI hxb hcell hsn hbv hF' e1
      go_wp2_with fail
      refine (wAppend wr HLr.out _ _ HBr.out (fun k hk => HAge.out k (by omega))).mono ?_
      rintro e w3 ⟨rfl, h3, k3⟩
      rw [E1.out] at h3 ⊢
      have HK3 := Lib.hid (HKr.out.trans (k3.shed (B' := w.heap.size) (by simp; omega) HKr.out.size))
      have hz3 := k3.size
      have H3 := Lib.hid h3
      clear h3 k3
      go_wp2_with fail
      go_roundw
      case rel => exact ⟨j + 1, l', by omega, by go_num, HF'.out, H3.out, HK3.out, by omega⟩
      case measure => simp [intOf]; omega
    · obtain rfl : j = m0 := by omega
      have hF2 : RunI 20000 0 none 0 la la.length l := by rw [← HM0.out]; exact hF
      obtain ⟨l1, e1, hP1⟩ := hF2.pack (s := s) [] (by rw [← HM0.out]; omega) T0.out (by have := SL.out; omega) (by omega) (by omega)
      have hP1' := RunI.lift lb hP1
      rw [Nat.zero_add, ← HM0.out] at hP1 hP1'
      obtain ⟨U, hU⟩ : ∃ U, U = 0 + (16 * j + total la) + (16 + s.length) := ⟨_, rfl⟩
      have hU1 : U ≤ 1000 := by have := T0.out; have := SL.out; omega
      rw [← hU] at hP1 hP1'
      obtain ⟨l2, e2, hP2⟩ := hP1.pack (s := s) lb (by simp) (by simp [total]) (by have := SL.out; omega) (by omega) (by omega)
      have hP2' : RunI 20000 j (some ⟨sSnap, frameB j s, 16 + s.length⟩) (U + (16 + s.length)) lb 0 l2 := by simpa [total] using hP2
      have HP1 := Lib.hid hP1'
      have HP2 := Lib.hid hP2'
      have HBs := Lib.hid (H2.out.kp hKr (by simp))
      have HLr := Lib.hid hL
      have HKr := Lib.hid hKr
      have E1 := Lib.hid e1
      have E2 := Lib.hid e2
      have hzz := hzr
      clear hF hL hKr HI hF2 e1 e2 hP1 hP1' hP2 hP2' hzr hU
      go_wp2_with fail
      refine (wPack wr HLr.out _ _ HBs.out (fun k hk => HAge.out k (by omega))).mono ?_
      rintro e w3 ⟨rfl, h3, k3⟩
      rw [E1.out] at h3 ⊢
      have HK3 := Lib.hid (HKr.out.trans (k3.shed (B' := w.heap.size) (by simp; omega) HKr.out.size))
      have hz3 : w2.heap.size ≤ w3.heap.size := Nat.le_trans hzz k3.size
      have H3 := Lib.hid h3
      clear h3 k3
      go_upto_if 66 with fail
      go_cut [15] (fun f wx => f = .int .u16 0 ∧ Hid (∃ (l : Lg) (V : Nat), V ≤ 2000 ∧ RunI 20000 j (some ⟨sSnap, frameB j s, 16 + s.length⟩) V lb 0 l ∧ IsLog wx A2 lb0 (w.heap.size + 1) w.heap.size l ∧ Kp [] w.heap.size w wx ∧ w2.heap.size ≤ wx.heap.size))
      case first =>
        cases ag with
        | false =>
          go_wp2
          go_meet
          exact ⟨rfl, l1, U, by omega, HP1.out, H3.out, HK3.out, hz3⟩
        | true =>
          have HB3 := Lib.hid (H2.out.kp HK3.out (by simp))
          go_wp2_with fail
          refine (wPack w3 H3.out _ _ HB3.out (fun k hk => HAge.out k (by omega))).mono ?_
          rintro e w4 ⟨rfl, h4, k4⟩
          rw [E2.out] at h4 ⊢
          have HK4 := Lib.hid (HK3.out.trans (k4.shed (B' := w.heap.size) (by simp; omega) HK3.out.size))
          have hz4 : w2.heap.size ≤ w4.heap.size := Nat.le_trans hz3 k4.size
          have H4 := Lib.hid h4
          clear h4 k4
          go_wp2
          go_meet
          exact ⟨rfl, l2, _, by have := SL.out; omega, HP2.out, H4.out, HK4.out, hz4⟩
      case rest =>
        obtain ⟨rfl, hcut⟩ := hcut
        obtain ⟨l3, V, hV, hR3, hL3, hK3, hzc⟩ := hcut.out
        have HR3 := Lib.hid hR3
        have HL3 := Lib.hid hL3
        have HK3' := Lib.hid hK3
        clear hcut hR3 hL3 hK3 HP1 HP2 H3 HK3 E1 E2 HLr HKr HBs hzz hz3
        have hR3b := HR3.out
        have hj12 : j ≤ 12 := by have := HQ.out; omega
        go_wp2_with fail
        go_loopw [16] (fun i wr => ∃ (q : Nat) (l : Lg), q ≤ m1 ∧ i = .int .i64 (q : Int) ∧ Hid (RunI 20000 j (some ⟨sSnap, frameB j s, 16 + s.length⟩) V lb q l ∧ IsLog wr A2 lb0 (w.heap.size + 1) w.heap.size l ∧ Kp [] w.heap.size w wr ∧ w2.heap.size ≤ wr.heap.size)) (fun i _ => m1 - (intOf i).toNat)
        case atStart => exact ⟨0, l3, by omega, rfl, HR3.out, HL3.out, HK3'.out, hzc⟩
        case round =>
          obtain ⟨q, l, hq, rfl, HI⟩ := hrel
          obtain ⟨hF, hL, hKr, hzr⟩ := HI.out
          by_cases hlt : q < m1
          · have hqL : q < lb.length := by rw [← HM1.out]; exact hlt
            obtain ⟨l', e1, hF'⟩ := hF.step hqL (by have := HM1.out; have := HQ.out; omega) T1.out (by omega) (by omega)
            obtain ⟨xo, so, sn, sc, hxo, hxb, hcell, hsn, hbv⟩ := RdRows.elem H1.out q hqL
            subst hxo
            have hcr := (hKr.cell (p := xo.add q) (by rw [add_block]; exact hxb) (by simp)).trans hcell
            have HBr := Lib.hid (hbv.kp hKr (by simp))
            have HLr := Lib.hid hL
            have HKr := Lib.hid hKr
            have HF' := Lib.hid hF'
            have E1 := Lib.hid e1
            clear hF hL hKr HI hxb hcell hsn hbv hF' e1
            go_wp2_with fail
            refine (wAppend wr HLr.out _ _ HBr.out (fun k hk => HAge.out k (by omega))).mono ?_
            rintro e w5 ⟨rfl, h5, k5⟩
            rw [E1.out] at h5 ⊢
            have HK5 := Lib.hid (HKr.out.trans (k5.shed (B' := w.heap.size) (by simp; omega) HKr.out.size))
            have hz5 := k5.size
            have H5 := Lib.hid h5
            clear h5 k5
            go_wp2_with fail
            go_roundw
            case rel => exact ⟨q + 1, l', by omega, by go_num, HF'.out, H5.out, HK5.out, by omega⟩
            case measure => simp [intOf]; omega
          · obtain rfl : q = m1 := by omega
            have hFL : RunI 20000 j (some ⟨sSnap, frameB j s, 16 + s.length⟩) V lb lb.length l := by rw [← HM1.out]; exact hF
            have hop := hFL.open rfl (by have := SL.out; omega) (by have := HM1.out; have := HQ.out; omega) (by omega)
            rw [← HM1.out, ← HQ.out] at hop
            have hseq : l.seq = Q := by have := hFL.calm.seq; rw [List.take_length, ← HM1.out, ← HQ.out] at this; exact this
            have HOP := Lib.hid hop
            have HSQ := Lib.hid hseq
            have HLr := Lib.hid hL
            have HKr := Lib.hid hKr
            clear hop hseq hFL hF hL hKr HI hR3b
            go_wp2_with fail
            refine (wOpen wr HLr.out.2.1 (fun k hk => HAge.out k (by omega))).mono ?_
            rintro e w4 h4
            rw [HOP.out] at h4
            obtain ⟨lb4, vx4, vl4, rfl, hl4, hx4, hr4, hlb4, hlb42, k4⟩ := (h4.ok rfl).log HLr.out.2.1 (by omega)
            have cvx := fun W (hk : Kp [] w4.heap.size w4 W) => conv_bytes (hx4.kp hk (by simp))
            obtain ⟨ax4, cx4, rfl, -, -, -⟩ := id hx4
            have HRR := Lib.hid (RdRows.of_own hr4)
            obtain ⟨al4, cl4, rfl, -, -⟩ := hr4.shape
            have HL4 := Lib.hid hl4
            have HD4 := Lib.hid (hl4.2.1.widen (A' := A2) (fun k h => h.1) HLr.out.2.1.apart.2)
            have HLL := Lib.hid (HLr.out.kpD k4 HD4.out)
            have K4 := Lib.hid (HKr.out.trans (k4.shed (B' := w.heap.size) (by simp) HKr.out.size))
            have CVX := Lib.hid cvx
            clear h4 hl4 hr4 k4 cvx hx4
            go_wp2_with fail
            refine (l14known _).mono ?_
            rintro e w5 ⟨rfl, k5⟩
            have K5 := Lib.hid (K4.out.trans (k5.mono (by simp) K4.out.size))
            have cv1 := CVX.out w5 k5
            have cv2 := conv_bytes (H2.out.kp K5.out (by simp))
            obtain ⟨z, hz⟩ : ∃ z : ByteArray, z = ⟨s.toArray⟩ := ⟨_, rfl⟩
            rw [← hz] at cv1 cv2
            have HL5 := Lib.hid (HL4.out.kp k5)
            have HLL5 := Lib.hid (HLL.out.kp k5)
            have HR5 := Lib.hid (HRR.out.kp k5)
            obtain ⟨sl, hsl⟩ : ∃ sl, sl = s.length := ⟨_, rfl⟩
            rw [← hsl] at cv1 ⊢
            have hll : lb.length = q := HM1.out.symm
            clear hz k5 hsl
            go_wp2_with fail
            have HR5' : RdRows w5 (.slice al4 q cl4) lb := by rw [← hll]; exact HR5.out
            refine (lsame _ _ lb w5 HR5' (H1.out.kp K5.out) (by omega)).mono ?_
            rintro e w6 ⟨rfl, k6⟩
            have K6 := Lib.hid (K5.out.trans (k6.mono (by simp) K5.out.size))
            have HL6 := Lib.hid (HL5.out.kp k6)
            have HLL6 := Lib.hid (HLL5.out.kp k6)
            clear k6 cv1 cv2
            go_wp2_with fail
            refine (wSeq w6 HL6.out).mono ?_
            rintro e w7 ⟨rfl, rfl⟩
            go_wp2_with fail
            refine (wSeq w6 HLL6.out).mono ?_
            rintro e w7 ⟨rfl, rfl⟩
            rw [show (⟨l.d, l.seq, l.broken⟩ : Lg).seq = Q from HSQ.out]
            go_wp2_with fail
            refine (wSeq w6 HL6.out).mono ?_
            rintro e w7 ⟨rfl, rfl⟩
            go_wp2_with fail
            go_ret
            exact ⟨rfl, K6.out⟩
theorem walPacks_row (a0 : Option Addr) (len0 cap0 : Nat) (rs0 : List (Value × List UInt8)) (a1 : Option Addr) (len1 cap1 : Nat) (rs1 : List (Value × List UInt8)) (a2 : Option Addr) (len2 cap2 : Nat) (z2 : List Int) (a3 : Bool) (w : World) (w0 : RowsV w a0 len0 cap0 rs0) (y0 : len0 * 24 ≤ 140737488351232) (w1 : RowsV w a1 len1 cap1 rs1) (y1 : len1 * 24 ≤ 140737488351232)
    (w2 : (a2 = none ∧ len2 = 0 ∧ cap2 = 0 ∧ z2 = []) ∨ ∃ x, a2 = some x ∧ len2 ≤ cap2 ∧ cap2 ≤ maxLen ∧ z2.length = cap2 ∧ (∀ i, i < z2.length → w.cell? (x.add i) = some (.int .u8 (z2.getD i 0))) ∧ ∀ n ∈ z2, (Lit.int .u8 n).wf = true) (y2 : len2 * 1 ≤ 140737488351232) :
    Calls Try.prog 4 #[.slice a0 len0 cap0, .slice a1 len1 cap1, .slice a2 len2 cap2, .bool a3] w fun e w' => e = .returned (.bool true) ∧ Below w.heap.size w w' := by
  obtain ⟨s, hls, hS⟩ := row_bytesW w2
  have hla : (rs0.map (·.2)).length = len0 := by simp [w0.1]
  have hlb : (rs1.map (·.2)).length = len1 := by simp [w1.1]
  cases hbig : packsBig (rs0.map (·.2)) (rs1.map (·.2)) s with
  | true => exact (packs_big _ _ a2 len2 cap2 a3 w _ _ s (RdRows.of_in w0) (RdRows.of_in w1) hls w0.short w1.short (by omega) (by omega) (by omega) hbig).mono fun e w' ⟨h1, h2⟩ => ⟨h1, h2.below⟩
  | false => exact (packs_small _ _ a2 len2 cap2 a3 w _ _ s (RdRows.of_in w0) (RdRows.of_in w1) hS hls w0.short w1.short hbig).mono fun e w' ⟨h1, h2⟩ => ⟨h1, h2.below⟩
end Go.Proofs.Ytdabflkejhoghaa.Hand
