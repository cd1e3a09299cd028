/- WalFiles: the walk. -/
import Derived.Below
import Derived.Deep.Draws
import Derived.Deep.AppendLies
import Derived.Maps.AppendAt
import Derived.OwnWalk
import Derived.Laws.BytesArg
import Derived.Laws.MakeOwn
import Derived.Laws.OwnMore
import Derived.Deep.OwnRows
import Derived.Tactics
import Derived.Lib.ConvBytes
import Derived.Laws.Slices
import Derived.WalkKit
import Derived.KernelRfl
import Derived.RowKit3
import Derived.Deep.LoopGhost
import Derived.Deep.QuietTactic
import Derived.BigQuiet
import Derived.WideLaws
import Derived.Deep.DeepCutAuto
import Derived.Deep.CutBlock
import Derived.Deep.RegionHeld3
import Derived.Laws.Rows
import Derived.Lib.AppendStr
import Derived.ArgAppend
import Derived.Laws.IdiomCopy
import Derived.OrdersHeld
import Derived.Laws.BitsLemmas
import Derived.RowKit
import Derived.Outline
import Derived.Maps.Own
import Derived.Maps.OwnOps
import Derived.Maps.OwnSet
import Derived.Maps.Views
import Derived.Maps.RangeWalk
import Derived.Maps.Ext
import Derived.RangeFuncOwn
import Derived.OneCell
import Derived.Deep.DeepMust
import Derived.Lib.Hide
import Derived.StillTailTactics
import Derived.Laws.AppendOwnNone
import Derived.WalkMore
import Derived.Lib.SlBytesConst
import Derived.WalkLawsBesides
import Derived.Laws.BitsAllLaws
import Derived.Test.YtdabflkejhoghaaWLast
import Derived.Test.YtdabflkejhoghaaHWa
import Derived.Test.YtdabflkejhoghaaHKb
import Derived.Test.YtdabflkejhoghaaHKc
import Derived.Test.YtdabflkejhoghaaHSh
namespace Go.Proofs.Ytdabflkejhoghaa.Hand
open Go Go.RowKit Go.Maps Go.WideMaps Go.Proofs.Ytdabflkejhoghaa.HW Go.Proofs.YtdabflkejhoghaaW.PrintLast
attribute [local go_sem] max2_int min2_int max_two min_two
set_option linter.unusedVariables false
set_option linter.unusedSimpArgs false
def filesBig (n0 n1 n2 : Nat) (lc : List (List UInt8)) : Bool := decide (400 < n0 + n1 + n2) || (decide (6 < lc.length) || decide (300 < total lc))
set_option maxHeartbeats 1600000 in
set_option maxRecDepth 100000 in
theorem files_big (a0 a1 a2 : Option Addr) (n0 c0 n1 c1 n2 c2 : Nat) (q3 q4 : Int) (v5 : Value) (q6 : Int) (w : World) (lc : List (List UInt8)) (h5 : RdRows w v5 lc) (hb5 : ∀ x ∈ lc, x.length ≤ 140737488351232) (hl5 : lc.length ≤ 140737488351232) (hn : n0 ≤ 140737488351232 ∧ n1 ≤ 140737488351232 ∧ n2 ≤ 140737488351232) (hbig : filesBig n0 n1 n2 lc = true) :
    Calls Try.prog 12 #[.slice a0 n0 c0, .slice a1 n1 c1, .slice a2 n2 c2, .int .u64 q3, .int .u64 q4, v5, .int .u8 q6] w fun e w' => e = .returned (.bool true) ∧ Kp [] w.heap.size w w' := by
  obtain ⟨hn0, hn1, hn2⟩ := hn
  have H5 := Lib.hid h5
  have HB5 := Lib.hid hb5
  obtain ⟨a5, cap5, rfl, -, -⟩ := h5
  obtain ⟨m5, hm5⟩ : ∃ m, m = lc.length := ⟨_, rfl⟩
  unfold filesBig at hbig
  rw [← hm5] at H5 hl5 hbig ⊢
  have HM5 := Lib.hid hm5
  clear hb5 hm5
  by_cases h4 : 400 < n0 + n1 + n2
  · have d1 : decide ((400 : Int) < (n0 : Int) + (n1 : Int) + (n2 : Int)) = true := decide_eq_true (by omega)
    clear hbig
    go_enter Try.func12, Try.ntmps12
    go_wp2_with fail
    refine (l14known _).mono ?_
    rintro e w1 ⟨rfl, k1⟩
    go_wp2_with fail
    go_ret
    exact ⟨rfl, k1⟩
  · have d1 : decide ((400 : Int) < (n0 : Int) + (n1 : Int) + (n2 : Int)) = false := decide_eq_false (by omega)
    rw [decide_eq_false h4] at hbig
    simp only [Bool.false_or] at hbig
    by_cases h6 : 6 < m5
    · have d3 : decide (6 < m5) = true := decide_eq_true h6
      have d4 : decide ((6 : Int) < (m5 : Int)) = true := decide_eq_true (by omega)
      clear hbig
      go_enter Try.func12, Try.ntmps12
      go_wp2_with fail
      refine (l14known _).mono ?_
      rintro e w1 ⟨rfl, k1⟩
      go_wp2_with fail
      go_ret
      exact ⟨rfl, k1⟩
    · have d3 : decide (6 < m5) = false := decide_eq_false h6
      have d4 : decide ((6 : Int) < (m5 : Int)) = false := decide_eq_false (by omega)
      rw [d3] at hbig
      simp only [Bool.false_or] at hbig
      go_enter Try.func12, Try.ntmps12
      go_wp2_with fail
      refine (lmany _ lc w H5.out (by rw [← HM5.out]; omega) HB5.out).mono ?_
      rintro e w1 ⟨rfl, rfl⟩
      rw [hbig]
      go_wp2_with fail
      refine (l14known _).mono ?_
      rintro e w1 ⟨rfl, k1⟩
      go_wp2_with fail
      go_ret
      exact ⟨rfl, k1⟩
theorem append_room (d : Dk) (nm b : List UInt8) : (d.append nm b).1.room = d.room := by
  unfold Dk.append
  split <;> rfl
theorem setD {w : World} {g : Nat} {x0 x1 x2 x3 x4 x5 x6 x7 x8 : Value} {T : TypeId} (h : w.heap[g]? = some (.cells #[x0, x1, x2, x3, x4, x5, x6, x7, x8] T)) (v2 v3 v4 v5 v6 : Value) :
    (((((w.setCell ⟨g, 2, none⟩ v2).setCell ⟨g, 3, none⟩ v3).setCell ⟨g, 4, none⟩ v4).setCell ⟨g, 5, none⟩ v5).setCell ⟨g, 6, none⟩ v6).heap[g]? = some (.cells #[x0, x1, v2, v3, v4, v5, v6, x7, x8] T) := by
  simp [World.setCell, Array.getElem?_modify, h]
theorem setD_kp (w : World) (g : Nat) (v2 v3 v4 v5 v6 : Value) : Kp [g] w.heap.size w (((((w.setCell ⟨g, 2, none⟩ v2).setCell ⟨g, 3, none⟩ v3).setCell ⟨g, 4, none⟩ v4).setCell ⟨g, 5, none⟩ v5).setCell ⟨g, 6, none⟩ v6) :=
  (((((Kp.refl [g] w.heap.size w).setCell (b := g) (.inr (by simp)) 2 none v2).setCell (b := g) (.inr (by simp)) 3 none v3).setCell (b := g) (.inr (by simp)) 4 none v4).setCell (b := g) (.inr (by simp)) 5 none v5).setCell (b := g) (.inr (by simp)) 6 none v6
set_option maxHeartbeats 8000000 in
set_option maxRecDepth 100000 in
theorem files_small (a0 a1 a2 : Option Addr) (n0 c0 n1 c1 n2 c2 : Nat) (n3 n4 : Nat) (v5 : Value) (n6 : Nat) (w : World) (sb lb nb : List UInt8) (lc : List (List UInt8)) (h0 : BytesV w (fun k => k < w.heap.size) (.slice a0 n0 c0) sb) (h1 : BytesV w (fun k => k < w.heap.size) (.slice a1 n1 c1) lb) (h2 : BytesV w (fun k => k < w.heap.size) (.slice a2 n2 c2) nb)
    (h5 : RdRows w v5 lc) (hb5 : ∀ x ∈ lc, x.length ≤ 140737488351232) (hn3 : n3 < 18446744073709551616) (hn4 : n4 < 18446744073709551616) (hn6 : n6 < 256) (hsmall : filesBig n0 n1 n2 lc = false) :
    Calls Try.prog 12 #[.slice a0 n0 c0, .slice a1 n1 c1, .slice a2 n2 c2, .int .u64 (n3 : Int), .int .u64 (n4 : Int), v5, .int .u8 (n6 : Int)] w fun e w' => e = .returned (.bool true) ∧ Kp [] w.heap.size w w' := by
  have H5 := Lib.hid h5
  have HB5 := Lib.hid hb5
  obtain ⟨a5, cap5, rfl, hcap5, -⟩ := h5
  obtain ⟨m5, hm5⟩ : ∃ m, m = lc.length := ⟨_, rfl⟩
  unfold filesBig at hsmall
  rw [← hm5] at H5 hcap5 hsmall ⊢
  simp only [Bool.or_eq_false_iff, decide_eq_false_iff_not] at hsmall
  obtain ⟨g1, g2, g3⟩ := hsmall
  have HM5 := Lib.hid hm5
  have hl0 := h0.cap.2
  have hl1 := h1.cap.2
  have hl2 := h2.cap.2
  have hcc1 := h1.cap.1
  have H0 := Lib.hid h0
  have H1 := Lib.hid h1
  have H2 := Lib.hid h2
  have HL0 := Lib.hid hl0
  have HL1 := Lib.hid hl1
  have HL2 := Lib.hid hl2
  have hm6 : m5 ≤ 6 := by omega
  have hsum : n0 + n1 + n2 ≤ 400 := by omega
  have T0 : Hid (total lc ≤ 300) := Lib.hid (by omega)
  have d1 : decide ((400 : Int) < (n0 : Int) + (n1 : Int) + (n2 : Int)) = false := decide_eq_false (by omega)
  have d4 : decide ((6 : Int) < (m5 : Int)) = false := decide_eq_false (by omega)
  have t0 : decide (300 < total lc) = false := decide_eq_false g3
  obtain ⟨k4, hk4⟩ : ∃ k4, k4 = n6 % 4 := ⟨_, rfl⟩
  have hk4I : (n6 : Int) % 4 = (k4 : Int) := by omega
  obtain ⟨s9, hs9⟩ : ∃ s9, s9 = n3 % 9 := ⟨_, rfl⟩
  have hs9I : (n3 : Int) % 9 = (s9 : Int) := by omega
  have hs9l : s9 < 9 := by omega
  clear h0 h1 h2 hl0 hl1 hl2 hb5 hm5 g1 g2 g3 hk4 hs9
  go_enter Try.func12, Try.ntmps12
  go_wp2_with fail
  refine (lmany _ lc w H5.out (by rw [← HM5.out]; omega) HB5.out).mono ?_
  rintro e w1 ⟨rfl, rfl⟩
  rw [t0]
  go_wp2_with fail
  refine (l14known _).mono ?_
  rintro e w1 ⟨rfl, k1⟩
  have K1 := Lib.hid k1
  have H01 := Lib.hid (H0.out.kp k1 (by simp))
  clear k1 d1 d4 t0
  go_upto_if 56 with fail
  go_cut [15] (fun x wx => ∃ (ax : Option Addr) (nx cx : Nat) (xb : List UInt8), x = .slice ax nx cx ∧ xb.length ≤ 416 ∧ Hid (BytesV wx (fun _ => True) (.slice ax nx cx) xb ∧ Kp [] w.heap.size w wx))
  case first =>
    by_cases hz : k4 = 0
    · have dz : decide ((0 : Int) < (k4 : Int)) = false := decide_eq_false (by omega)
      go_wp2
      go_meet
      exact ⟨a0, n0, c0, sb, rfl, by have := HL0.out; omega, H01.out.mono (Nat.le_refl _) (fun k hk hl => ⟨trivial, rfl⟩), K1.out⟩
    · have dz : decide ((0 : Int) < (k4 : Int)) = true := decide_eq_true (by omega)
      go_wp2_with fail
      refine (r13Frame _ s9 sb w1 H01.out (by have := HL0.out; omega) (by omega)).mono ?_
      rintro e w2 ⟨vf, rfl, hF, k2⟩
      obtain ⟨of2, nf2, cf2, rfl, hnf2⟩ := own_shape hF
      have HF := Lib.hid (BytesV.own hF (A := fun _ => True) (fun _ _ => trivial))
      have K2 := Lib.hid (K1.out.trans (k2.mono (by simp) K1.out.size))
      clear hF k2
      go_wp2
      go_meet
      exact ⟨of2, nf2, cf2, frameB s9 sb, rfl, by rw [frameB_length]; have := HL0.out; omega, HF.out, K2.out⟩
  case rest =>
    obtain ⟨ax, nx, cx, xb, rfl, hxl, hcut⟩ := hcut
    have HX := Lib.hid hcut.out.1
    have KX := Lib.hid hcut.out.2
    clear hcut K1 H01 hk4I hs9I hs9l
    obtain ⟨h4, hh4⟩ : ∃ h4, h4 = n6 / 4 % 4 := ⟨_, rfl⟩
    have hh4I : (n6 : Int) / 4 % 4 = (h4 : Int) := by omega
    obtain ⟨h16, hh16⟩ : ∃ h16, h16 = n6 / 16 := ⟨_, rfl⟩
    have hh16I : (n6 : Int) / 16 = (h16 : Int) := by omega
    obtain ⟨s4, hs4⟩ : ∃ s4, s4 = n4 % 9 := ⟨_, rfl⟩
    have hs4I : (n4 : Int) % 9 = (s4 : Int) := by omega
    have hs4l : s4 < 9 := by omega
    obtain ⟨mi, hmi⟩ : ∃ mi, mi = min n1 h16 := ⟨_, rfl⟩
    have HMI := Lib.hid hmi
    have hmi1 : mi ≤ n1 := by omega
    clear hh4 hh16 hs4 hmi
    go_upto_if 68 with fail
    go_cut [16] (fun y wx => ∃ (ay : Option Addr) (ny cy : Nat) (yb : List UInt8), y = .slice ay ny cy ∧ yb.length ≤ 800 ∧ Hid (BytesV wx (fun _ => True) (.slice ay ny cy) yb ∧ BytesV wx (fun _ => True) (.slice ax nx cx) xb ∧ Kp [] w.heap.size w wx))
    case first =>
      by_cases hz : h4 = 0
      · have dz : decide ((0 : Int) < (h4 : Int)) = false := decide_eq_false (by omega)
        go_wp2
        go_meet
        exact ⟨a1, n1, c1, lb, rfl, by have := HL1.out; omega, (H1.out.kp KX.out (by simp)).mono (Nat.le_refl _) (fun k hk hl => ⟨trivial, rfl⟩), HX.out, KX.out⟩
      · have dz : decide ((0 : Int) < (h4 : Int)) = true := decide_eq_true (by omega)
        obtain ⟨G, hG⟩ : ∃ G, G = wc.heap.size := ⟨_, rfl⟩
        have HG := Lib.hid hG
        have HI0 : Hid (wc.ownsRow G 5 1 (.slice none 0 0) 0 (bcells []) ∧ Kp [] G wc wc) := ⟨⟨rfl, .inl ⟨rfl, rfl⟩⟩, Kp.refl _ _ _⟩
        clear hG
        go_wp2_with fail
        go_loopw [19, 20] (fun al i wr => ∃ (k na ca : Nat) (oa : Option Addr) (ab : List UInt8), k ≤ m5 ∧ al = .slice oa na ca ∧ i = .int .i64 (k : Int) ∧ na ≤ 400 ∧ Hid (na = ab.length ∧ na = 16 * k + total (lc.take k)) ∧ Hid (wr.ownsRow G 5 1 (.slice oa na ca) na (bcells ab) ∧ Kp [] G wc wr)) (fun _ i _ => m5 - (intOf i).toNat)
        case atStart => exact ⟨0, 0, 0, none, [], by omega, rfl, rfl, by omega, ⟨rfl, by simp [total]⟩, HI0.out⟩
        case round =>
          obtain ⟨k, na, ca, oa, ab, hk, rfl, rfl, hna, HN, HI⟩ := hrel
          have HROW := Lib.hid HI.out.1
          have HKr := Lib.hid HI.out.2
          have hGr : G ≤ wr.heap.size := by rw [HG.out]; exact HI.out.2.size
          have HKw : Hid (Kp [] w.heap.size w wr) := KX.out.trans (HI.out.2.mono (by simp) (by rw [HG.out]; exact KX.out.size))
          clear HI HI0
          by_cases hlt : k < m5
          · have hkL : k < lc.length := by rw [← HM5.out]; exact hlt
            obtain ⟨xo, so, sn, sc, hxo, hxb, hcell, hsn, hbv⟩ := RdRows.elem H5.out k hkL
            subst hxo
            have hcr := (HKw.out.cell (p := xo.add k) (by rw [add_block]; exact hxb) (by simp)).trans hcell
            have HBr := Lib.hid (hbv.kp HKw.out (by simp))
            have HTK := Lib.hid (total_take lc k hkL)
            have hle := total_take_le lc (k + 1)
            have hsl : na + (16 + sn) ≤ 400 := by have := HTK.out; have := HN.out.2; have := T0.out; omega
            have HSN := Lib.hid hsn
            obtain ⟨sq, hsq⟩ : ∃ sq, sq = s4 + k := ⟨_, rfl⟩
            have hsqI : (s4 : Int) + (k : Int) = (sq : Int) := by omega
            have hsq64 : sq < 18446744073709551616 := by omega
            clear hxb hcell hsn hbv hle hsq
            go_wp2_with fail
            refine (r13Frame _ sq lc[k] wr HBr.out (by rw [← HSN.out]; omega) hsq64).mono ?_
            rintro e w2 ⟨vf, rfl, hF, k2⟩
            obtain ⟨of2, nf2, cf2, rfl, hnf2⟩ := own_shape hF
            have HF := Lib.hid (own_bytes hF)
            have HROW2 := Lib.hid (own_kp HROW.out k2 (Nat.le_refl _))
            have HK2 := Lib.hid (HKr.out.trans (k2.mono (by simp) hGr))
            have hG2 : G ≤ w2.heap.size := Nat.le_trans hGr k2.size
            have hfl : nf2 = 16 + sn := by rw [hnf2, frameB_length, HSN.out]
            subst hfl
            clear hF k2 hcr hnf2
            go_wp2_with (at_builtin; go_must (refine wpList_appB rfl _ _ rfl G _ na _ rfl HROW2.out rfl HF.out (by rw [frameB_length, ← HSN.out]; omega) hG2 ?_; intro v7 w7 h7 g7))
            have k7 : Kp [] G w2 w7 := kp_grown g7 (own_ge HROW2.out) hG2
            rw [← bcells_app, frameB_length, ← HSN.out] at h7
            obtain ⟨o7, n7, c7, rfl, hn7⟩ := own_shape h7
            have H7 := Lib.hid h7
            have K7 := Lib.hid (HK2.out.trans k7)
            subst hn7
            clear h7 g7 k7
            go_wp2_with fail
            go_roundw
            case rel => exact ⟨k + 1, na + (16 + sn), c7, o7, ab ++ frameB sq lc[k], by omega, rfl, by go_num, hsl, ⟨by rw [List.length_append, frameB_length, ← HSN.out, ← HN.out.1], by rw [HTK.out, HN.out.2, HSN.out]; omega⟩, H7.out, K7.out⟩
            case measure => simp [intOf]; omega
          · by_cases hq : h16 < n1
            · have HLT := Lib.hid (((H1.out.kp HKw.out (by simp))).take h16 (by have := HL1.out; omega))
              have hcq : (h16 : Int) ≤ (c1 : Int) := by have := HL1.out; omega
              go_wp2_with (at_builtin; go_must (refine wpList_appB rfl _ _ rfl G _ na _ rfl HROW.out rfl HLT.out (by have := HL1.out; simp; omega) hGr ?_; intro v7 w7 h7 g7))
              have k7 : Kp [] G wr w7 := kp_grown g7 (own_ge HROW.out) hGr
              rw [← bcells_app] at h7
              obtain ⟨o7, n7, c7, rfl, hn7⟩ := own_shape h7
              have K7 := Lib.hid (HKr.out.trans k7)
              have H7 := Lib.hid (BytesV.own h7 (A := fun _ => True) (fun _ _ => trivial))
              clear h7 g7 k7
              go_wp2
              go_meet
              exact ⟨o7, n7, c7, ab ++ lb.take h16, rfl, by have := HN.out.1; have := HL1.out; simp; omega, H7.out, HX.out.kp (by rw [← HG.out]; exact K7.out) (by simp), KX.out.trans (K7.out.mono (by simp) (by rw [HG.out]; exact KX.out.size))⟩
            · have HLT := Lib.hid (((H1.out.kp HKw.out (by simp))).take n1 (by have := HL1.out; omega))
              have hcq : (n1 : Int) ≤ (c1 : Int) := by have := HL1.out; omega
              go_wp2_with (at_builtin; go_must (refine wpList_appB rfl _ _ rfl G _ na _ rfl HROW.out rfl HLT.out (by have := HL1.out; simp; omega) hGr ?_; intro v7 w7 h7 g7))
              have k7 : Kp [] G wr w7 := kp_grown g7 (own_ge HROW.out) hGr
              rw [← bcells_app] at h7
              obtain ⟨o7, n7, c7, rfl, hn7⟩ := own_shape h7
              have K7 := Lib.hid (HKr.out.trans k7)
              have H7 := Lib.hid (BytesV.own h7 (A := fun _ => True) (fun _ _ => trivial))
              clear h7 g7 k7
              go_wp2
              go_meet
              exact ⟨o7, n7, c7, ab ++ lb.take n1, rfl, by have := HN.out.1; have := HL1.out; simp; omega, H7.out, HX.out.kp (by rw [← HG.out]; exact K7.out) (by simp), KX.out.trans (K7.out.mono (by simp) (by rw [HG.out]; exact KX.out.size))⟩
    case rest =>
      obtain ⟨ay, ny, cy, yb, rfl, hyl, hcut⟩ := hcut
      obtain ⟨hy1, hx1, k1⟩ := hcut.out
      have HY := Lib.hid hy1.low
      have HX := Lib.hid hx1.low
      have KC := Lib.hid k1
      have HZ := Lib.hid ((H2.out.kp k1 (by simp)).low)
      clear hcut hy1 hx1 k1 KX hh4I hh16I hs4I hs4l HMI hmi1
      go_wp2_with fail
      refine (dNew (fun _ => False) 3000 _ (by omega) ⟨id, id⟩).mono ?_
      rintro e w3 ⟨rfl, h3, k3⟩
      go_wp2_with fail
      refine (rNew 3000 w3 (by omega)).mono ?_
      rintro e w4 ⟨v4, rfl, h4, k4⟩
      obtain ⟨ao4, nf4, cap4, left4, rfl, -⟩ := h4.form
      have hlt3 := h3.lt
      have hz34 := k4.size
      have k35 : Kp [] w4.heap.size w4 (((w4.alloc (.cells #[.pointer (some ⟨wc.heap.size + 1, 0, none⟩), .pointer none, .slice ao4 nf4 cap4, .int .i64 ((Dk.new 3000).room : Int), .bool (Dk.new 3000).fuse.isSome, .int .i64 left4, .bool (Dk.new 3000).dead, .int .u64 0, .bool false] 78)).alloc (.cells #[.string ⟨#[115, 110, 97, 112]⟩, .string ⟨#[108, 111, 103]⟩, .string ⟨#[110, 101, 120, 116]⟩] 9)).alloc (.cells #[.slice ax nx cx, .slice ay ny cy, .slice a2 n2 c2] 22)) := (((Kp.refl _ _ _).alloc (Nat.le_refl _) _).alloc (by simp) _).alloc (by simp; omega) _
      have hb5 : (((w4.alloc (.cells #[.pointer (some ⟨wc.heap.size + 1, 0, none⟩), .pointer none, .slice ao4 nf4 cap4, .int .i64 ((Dk.new 3000).room : Int), .bool (Dk.new 3000).fuse.isSome, .int .i64 left4, .bool (Dk.new 3000).dead, .int .u64 0, .bool false] 78)).alloc (.cells #[.string ⟨#[115, 110, 97, 112]⟩, .string ⟨#[108, 111, 103]⟩, .string ⟨#[110, 101, 120, 116]⟩] 9)).alloc (.cells #[.slice ax nx cx, .slice ay ny cy, .slice a2 n2 c2] 22)).heap[w4.heap.size]? = some (.cells #[.pointer (some ⟨wc.heap.size + 1, 0, none⟩), .pointer none, .slice ao4 nf4 cap4, .int .i64 ((Dk.new 3000).room : Int), .bool (Dk.new 3000).fuse.isSome, .int .i64 left4, .bool (Dk.new 3000).dead, .int .u64 0, .bool false] 78 (0, 0)) := (Below.heap_alloc _ _ _ (by simp; omega)).trans ((Below.heap_alloc _ _ _ (by simp)).trans (World.alloc_heap_new w4 _))
      have hn5 : (((w4.alloc (.cells #[.pointer (some ⟨wc.heap.size + 1, 0, none⟩), .pointer none, .slice ao4 nf4 cap4, .int .i64 ((Dk.new 3000).room : Int), .bool (Dk.new 3000).fuse.isSome, .int .i64 left4, .bool (Dk.new 3000).dead, .int .u64 0, .bool false] 78)).alloc (.cells #[.string ⟨#[115, 110, 97, 112]⟩, .string ⟨#[108, 111, 103]⟩, .string ⟨#[110, 101, 120, 116]⟩] 9)).alloc (.cells #[.slice ax nx cx, .slice ay ny cy, .slice a2 n2 c2] 22)).heap[w4.heap.size + 1]? = some (.cells #[.string ⟨#[115, 110, 97, 112]⟩, .string ⟨#[108, 111, 103]⟩, .string ⟨#[110, 101, 120, 116]⟩] 9 (0, 0)) := (Below.heap_alloc _ _ _ (by simp)).trans (new_at _ _ _ (by simp))
      have hr5 : (((w4.alloc (.cells #[.pointer (some ⟨wc.heap.size + 1, 0, none⟩), .pointer none, .slice ao4 nf4 cap4, .int .i64 ((Dk.new 3000).room : Int), .bool (Dk.new 3000).fuse.isSome, .int .i64 left4, .bool (Dk.new 3000).dead, .int .u64 0, .bool false] 78)).alloc (.cells #[.string ⟨#[115, 110, 97, 112]⟩, .string ⟨#[108, 111, 103]⟩, .string ⟨#[110, 101, 120, 116]⟩] 9)).alloc (.cells #[.slice ax nx cx, .slice ay ny cy, .slice a2 n2 c2] 22)).heap[w4.heap.size + 2]? = some (.cells #[.slice ax nx cx, .slice ay ny cy, .slice a2 n2 c2] 22 (0, 0)) := new_at _ _ _ (by simp)
      have hz5 : (((w4.alloc (.cells #[.pointer (some ⟨wc.heap.size + 1, 0, none⟩), .pointer none, .slice ao4 nf4 cap4, .int .i64 ((Dk.new 3000).room : Int), .bool (Dk.new 3000).fuse.isSome, .int .i64 left4, .bool (Dk.new 3000).dead, .int .u64 0, .bool false] 78)).alloc (.cells #[.string ⟨#[115, 110, 97, 112]⟩, .string ⟨#[108, 111, 103]⟩, .string ⟨#[110, 101, 120, 116]⟩] 9)).alloc (.cells #[.slice ax nx cx, .slice ay ny cy, .slice a2 n2 c2] 22)).heap.size = w4.heap.size + 3 := by simp
      have KS : Hid (Kp [] w.heap.size w w4) := KC.out.trans ((k3.mono (by simp) KC.out.size).trans (k4.mono (by simp) (Nat.le_trans KC.out.size k3.size)))
      have KQ : Hid (Kp [] wc.heap.size wc w4) := k3.trans (k4.mono (by simp) k3.size)
      have HT4 := Lib.hid h4
      have HD3 := Lib.hid (h3.kp_ge k4)
      have hwcz : wc.heap.size + 1 < w4.heap.size := by omega
      clear h3 k3 h4 k4 hz34 hlt3
      go_upto_region 20 with fail
      obtain ⟨W5, hW5⟩ : ∃ W5, W5 = (((w4.alloc (.cells #[.pointer (some ⟨wc.heap.size + 1, 0, none⟩), .pointer none, .slice ao4 nf4 cap4, .int .i64 ((Dk.new 3000).room : Int), .bool (Dk.new 3000).fuse.isSome, .int .i64 left4, .bool (Dk.new 3000).dead, .int .u64 0, .bool false] 78)).alloc (.cells #[.string ⟨#[115, 110, 97, 112]⟩, .string ⟨#[108, 111, 103]⟩, .string ⟨#[110, 101, 120, 116]⟩] 9)).alloc (.cells #[.slice ax nx cx, .slice ay ny cy, .slice a2 n2 c2] 22)) := ⟨_, rfl⟩
      rw [← hW5] at k35 hb5 hn5 hr5 hz5 ⊢
      clear hW5
      have HB5' : Hid (Both W5 (fun k => w4.heap.size < k) w4.heap.size (wc.heap.size + 1) wc.heap.size (.pointer none) (Dk.new 3000) 0 false) :=
        ⟨(HD3.out.kp_ge k35).widen (fun _ h => h.elim) ⟨by omega, by omega⟩, ⟨ao4, nf4, cap4, left4, hb5, HT4.out.kp k35⟩, by omega, by omega, by omega⟩
      have K5 := Lib.hid k35
      have HN5 := Lib.hid hn5
      have HR5 := Lib.hid hr5
      clear k35 hb5 hn5 hr5
      go_wp2_with fail
      go_loopw [26] (fun i wr => ∃ (j : Nat) (dk : Dk), j ≤ 3 ∧ i = .int .i64 (j : Int) ∧ Hid (dk.room = 3000) ∧ Hid (Both wr (fun k => w4.heap.size < k) w4.heap.size (wc.heap.size + 1) wc.heap.size (.pointer none) dk 0 false) ∧ Hid (Kp [w4.heap.size, wc.heap.size + 1, wc.heap.size] W5.heap.size W5 wr)) (fun i _ => 3 - (intOf i).toNat)
      case atStart => exact ⟨0, Dk.new 3000, by omega, rfl, rfl, HB5'.out, Kp.refl _ _ _⟩
      case round =>
        obtain ⟨j, dk, hj, rfl, HRM, HBo, HKr⟩ := hrel
        have hbn := (HKr.out.block (w4.heap.size + 1) (by omega) (by simp; omega)).trans HN5.out
        have hbr := (HKr.out.block (w4.heap.size + 2) (by omega) (by simp; omega)).trans HR5.out
        obtain ⟨u0, u1, u2⟩ := boxF hbn
        obtain ⟨r0, r1, r2⟩ := boxF hbr
        obtain ⟨ao6, nf6, cap6, left6, hb6, ht6⟩ := HBo.out.box
        have HB6 := Lib.hid hb6
        have HT6 := Lib.hid ht6
        obtain ⟨b0, b1, b2, b3, b4, b5, b6, b7, b8⟩ := boxB hb6
        have hwrs : W5.heap.size ≤ wr.heap.size := HKr.out.size
        clear hbn hbr hb6 ht6
        by_cases hlt : j < 3
        · have hkw : Kp [] wc.heap.size wc wr := KQ.out.trans ((K5.out.mono (by simp) KQ.out.size).trans (HKr.out.shed (B' := wc.heap.size) (by simp; omega) (by omega)))
          obtain ⟨nm, on, nn, cn, bs, hcn, hcr, hbs, hnl, hbl⟩ : ∃ (nm : List UInt8) (on : Option Addr) (nn cn : Nat) (bs : List UInt8), wr.cell? ⟨w4.heap.size + 1, j, none⟩ = some (.string ⟨nm.toArray⟩) ∧ wr.cell? ⟨w4.heap.size + 2, j, none⟩ = some (.slice on nn cn) ∧ BytesV wr (fun k => k < wc.heap.size) (.slice on nn cn) bs ∧ nm.length ≤ 4 ∧ bs.length ≤ 800 := by
            have hj3 : j = 0 ∨ j = 1 ∨ j = 2 := by omega
            rcases hj3 with rfl | rfl | rfl
            · exact ⟨[115, 110, 97, 112], _, _, _, xb, u0, r0, HX.out.kp hkw (by simp), by decide, by omega⟩
            · exact ⟨[108, 111, 103], _, _, _, yb, u1, r1, HY.out.kp hkw (by simp), by decide, by omega⟩
            · exact ⟨[110, 101, 120, 116], _, _, _, nb, u2, r2, HZ.out.kp hkw (by simp), by decide, by have := HL2.out; omega⟩
          clear u0 u1 u2 r0 r1 r2 hkw
          have HBS := Lib.hid hbs
          have HNL := Lib.hid hnl
          have HBL := Lib.hid hbl
          clear hbs hnl hbl
          have ht : (((j : Int) == 0) = true ∧ decide ((j : Int) = 0) = true ∧ decide ((192 : Int) ≤ (n6 : Int)) = true) ∨ (((j : Int) == 0) = true ∧ decide ((j : Int) = 0) = true ∧ decide ((192 : Int) ≤ (n6 : Int)) = false) ∨ (((j : Int) == 0) = false ∧ decide ((j : Int) = 0) = false) := by
            by_cases h0 : j = 0
            · subst h0
              by_cases h1 : 192 ≤ n6
              · exact .inl ⟨rfl, rfl, decide_eq_true (by omega)⟩
              · exact .inr (.inl ⟨rfl, rfl, decide_eq_false (by omega)⟩)
            · exact .inr (.inr ⟨by simp; omega, decide_eq_false (by omega)⟩)
          have dj : decide ((j : Int) < 3) = true := decide_eq_true (by omega)
          rcases ht with ⟨e1, e2, e3⟩ | ⟨e1, e2, e3⟩ | ⟨e1, e2⟩
          · go_wp2_with fail
            go_roundw
            case rel => exact ⟨j + 1, dk, by omega, by go_num, HRM.out, HBo.out, HKr.out⟩
            case measure => simp [intOf]; omega
          · go_upto_region 24 with fail
            obtain ⟨wd, hwd⟩ : ∃ wd, wd = wr.drew := ⟨_, rfl⟩
            have hdr : Kp [] wr.heap.size wr wd := by rw [hwd]; exact (Kp.refl _ _ _).drew 1
            have v0 := (hdr.cell (p := ⟨w4.heap.size, 0, none⟩) (by show w4.heap.size < _; omega) (by simp)).trans b0
            have vn := (hdr.cell (p := ⟨w4.heap.size + 1, j, none⟩) (by show w4.heap.size + 1 < _; omega) (by simp)).trans hcn
            have vr := (hdr.cell (p := ⟨w4.heap.size + 2, j, none⟩) (by show w4.heap.size + 2 < _; omega) (by simp)).trans hcr
            have HDd := Lib.hid (HBo.out.disk.kp_ge hdr)
            have HBd := Lib.hid (HBS.out.kp hdr (by simp))
            have HTd := Lib.hid (HT6.out.kp hdr)
            have HXd := Lib.hid ((hdr.block w4.heap.size (by omega) (by simp)).trans HB6.out)
            have HKd := Lib.hid (HKr.out.trans (hdr.mono (by simp) (by omega)))
            have hwds : wr.heap.size ≤ wd.heap.size := hdr.size
            have hwdj : (j : Int) < 3 := by omega
            have hj0 : (0 : Int) ≤ (j : Int) := by omega
            clear hdr
            refine wp_region_still_tail 12 (by kernel_rfl) (by kernel_rfl) ?_
            simp only [List.take_succ_cons, List.take_zero, List.drop_succ_cons, List.drop_zero]
            change wpStill _ _ (World.drew _) (fun a' => wpList _ _ _ _ a' (World.drew _)) _ _
            rw [← hwd]
            clear hwd b0 b1 b2 b3 b4 b5 b6 b7 b8 hcn hcr
            repeat still_step
            refine wpStill_nil ?_
            go_wp2_with fail
            refine (dAppend _ _ _ dk nm bs _ _ wd HDd.out (by have := HNL.out; unfold maxLen; omega) HBd.out (by omega) (by have := HBL.out; omega) (fun k hk => by omega)).mono ?_
            rintro e w6 ⟨rfl, hd6, k6⟩
            obtain ⟨D, hD⟩ : ∃ D, D = (dk.append nm bs).1 := ⟨_, rfl⟩
            obtain ⟨q, hq⟩ : ∃ q, q = (dk.append nm bs).2 := ⟨_, rfl⟩
            rw [← hD] at hd6
            rw [← hq]
            have HDq : Hid (D = (dk.append nm bs).1 ∧ q = (dk.append nm bs).2) := ⟨hD, hq⟩
            have HD6 := Lib.hid hd6
            have hbx6 := (k6.block w4.heap.size (by omega) (by simp; omega)).trans HXd.out
            obtain ⟨b0, b1, b2, b3, b4, b5, b6, b7, b8⟩ := boxB hbx6
            have hwd6 := k6.size
            have cn6 := (k6.cell (p := ⟨w4.heap.size + 1, j, none⟩) (by show w4.heap.size + 1 < _; omega) (by simp; omega)).trans vn
            have cr6 := (k6.cell (p := ⟨w4.heap.size + 2, j, none⟩) (by show w4.heap.size + 2 < _; omega) (by simp; omega)).trans vr
            have HX6 := Lib.hid hbx6
            have HS6 := Lib.hid (HBd.out.kp k6 (by simp <;> omega))
            have HU6 := Lib.hid (HTd.out.shy HDd.out.shy k6)
            have HK6 := Lib.hid (HKd.out.trans (k6.mono (by simp) (by omega)))
            have HBa := Lib.hid HBo.out.apart
            clear k6 v0 vn vr hbx6 hd6 hD hq HDd HBd HTd HXd HKd HBo HBS HT6 HB6
            go_upto_region 25 with fail
            have HLD : Hid (∀ W, Kp [] w6.heap.size w6 W → Calls Try.prog 44 #[.agg #[.slice ao6 nf6 cap6, .int .i64 (dk.room : Int), .bool dk.fuse.isSome, .int .i64 left6, .bool dk.dead], .string ⟨nm.toArray⟩, .slice on nn cn] W fun e w' => ∃ ao9 n9 cap9 left9, e = .returned (.tuple #[.agg #[.slice ao9 n9 cap9, .int .i64 (D.room : Int), .bool D.fuse.isSome, .int .i64 left9, .bool D.dead], .bool q]) ∧ IsT w' (.agg #[.slice ao9 n9 cap9, .int .i64 (D.room : Int), .bool D.fuse.isSome, .int .i64 left9, .bool D.dead]) D ∧ Kp [] W.heap.size W w') := Lib.hid fun W hk => by
              refine (rAppend dk _ nm bs _ W (HU6.out.kp hk) (HS6.out.kp hk (by simp)) (by have := HNL.out; unfold maxLen; omega) (by have := HBL.out; omega)).mono ?_
              rintro e w9 ⟨v9, rfl, h9, k9⟩
              obtain ⟨ao9, n9, cap9, left9, rfl, -⟩ := h9.form
              rw [← HDq.out.1] at h9 ⊢
              rw [← HDq.out.2]
              exact ⟨ao9, n9, cap9, left9, rfl, h9, k9⟩
            obtain ⟨mb, hmb⟩ : ∃ mb, mb = wc.heap.size := ⟨_, rfl⟩
            rw [← hmb] at HD6 HK6 HBa b0
            have HMB := Lib.hid hmb
            have HX6' : Hid (w6.heap[w4.heap.size]? = some (.cells #[.pointer (some ⟨mb + 1, 0, none⟩), .pointer none, .slice ao6 nf6 cap6, .int .i64 (dk.room : Int), .bool dk.fuse.isSome, .int .i64 left6, .bool dk.dead, .int .u64 ((0 : Nat) : Int), .bool false] 78 (0, 0))) := Lib.hid (by have := HX6.out; rw [← hmb] at this; exact this)
            clear hmb HX6
            go_cut [27, 28] from 112 to 156 (fun pg one wx => ∃ (g : Nat), pg = .pointer (some ⟨g, 0, none⟩) ∧ one = .bool q ∧ Hid (∃ ao9 n9 cap9 left9, wx.heap[g]? = some (.cells #[.slice ao9 n9 cap9, .int .i64 (D.room : Int), .bool D.fuse.isSome, .int .i64 left9, .bool D.dead] 59 (0, 0)) ∧ IsT wx (.agg #[.slice ao9 n9 cap9, .int .i64 (D.room : Int), .bool D.fuse.isSome, .int .i64 left9, .bool D.dead]) D ∧ Kp [] w6.heap.size w6 wx))
            case first =>
              have kz6 : Kp [] w6.heap.size w6 w6.drew := (Kp.refl _ _ _).drew 1
              have hs0 : w4.heap.size < w6.heap.size := by omega
              have hs1 : w4.heap.size + 1 < w6.heap.size := by omega
              have hs2 : w4.heap.size + 2 < w6.heap.size := by omega
              refine start_ (n := 20) (S := fun w' => w'.cell? ⟨w4.heap.size, 2, none⟩ = some (.slice ao6 nf6 cap6) ∧ w'.cell? ⟨w4.heap.size, 3, none⟩ = some (.int .i64 (dk.room : Int)) ∧ w'.cell? ⟨w4.heap.size, 4, none⟩ = some (.bool dk.fuse.isSome) ∧ w'.cell? ⟨w4.heap.size, 5, none⟩ = some (.int .i64 left6) ∧ w'.cell? ⟨w4.heap.size, 6, none⟩ = some (.bool dk.dead) ∧ w'.cell? ⟨w4.heap.size + 1, j, none⟩ = some (.string ⟨nm.toArray⟩) ∧ w'.cell? ⟨w4.heap.size + 2, j, none⟩ = some (.slice on nn cn) ∧ Kp [] w6.heap.size w6 w') (ds := [18]) #[false, false, false, false, false, false, false, false, false, false, false, false, false, false, false, false, false, false, false, false] (by kernel_rfl) rfl rfl ⟨(by exact b2), (by exact b3), (by exact b4), (by exact b5), (by exact b6), (by exact cn6), (by exact cr6), kz6⟩ (fun hHeld => ?_)
              refine pure_ (i := 0) (N := some 136) (v := ?_) (a' := ?_) #[true, false, false, false, false, false, false, false, false, false, false, false, false, false, false, false, false, false, false, false] rfl rfl (by kernel_rfl) (fun _ _ _ h => h) (Or.inl ⟨by rfl, ?_⟩) ?_ ?_
              rotate_left
              · intro w'
                go_simp
                with_reducible rfl
              rotate_left
              · simp only [Act.put, List.setIfInBounds_toArray, List.set_cons_zero, List.set_cons_succ, i64_w, i32_w]
                rfl
              refine pure_ (i := 1) (N := some 137) (v := ?_) (a' := ?_) #[true, true, false, false, false, false, false, false, false, false, false, false, false, false, false, false, false, false, false, false] rfl rfl (by kernel_rfl) (fun _ _ _ h => h) (Or.inl ⟨by rfl, ?_⟩) ?_ ?_
              rotate_left
              · intro w'
                go_simp
                with_reducible rfl
              rotate_left
              · simp only [Act.put, List.setIfInBounds_toArray, List.set_cons_zero, List.set_cons_succ, i64_w, i32_w]
                rfl
              refine pure_ (i := 2) (N := some 138) (v := ?_) (a' := ?_) #[true, true, true, false, false, false, false, false, false, false, false, false, false, false, false, false, false, false, false, false] rfl rfl (by kernel_rfl) (fun _ _ _ h => h) (Or.inl ⟨by rfl, ?_⟩) ?_ ?_
              rotate_left
              · intro w'
                go_simp
                with_reducible rfl
              rotate_left
              · simp only [Act.put, List.setIfInBounds_toArray, List.set_cons_zero, List.set_cons_succ, i64_w, i32_w]
                rfl
              refine pure_ (i := 3) (N := some 139) (v := ?_) (a' := ?_) #[true, true, true, true, false, false, false, false, false, false, false, false, false, false, false, false, false, false, false, false] rfl rfl (by kernel_rfl) (fun _ _ _ h => h) (Or.inl ⟨by rfl, ?_⟩) ?_ ?_
              rotate_left
              · intro w'
                go_simp
                with_reducible rfl
              rotate_left
              · simp only [Act.put, List.setIfInBounds_toArray, List.set_cons_zero, List.set_cons_succ, i64_w, i32_w]
                rfl
              refine pure_ (i := 5) (N := some 141) (v := ?_) (a' := ?_) #[true, true, true, true, false, true, false, false, false, false, false, false, false, false, false, false, false, false, false, false] rfl rfl (by kernel_rfl) (fun _ _ _ h => h) (Or.inl ⟨by rfl, ?_⟩) ?_ ?_
              rotate_left
              · intro w'
                go_simp
                with_reducible rfl
              rotate_left
              · simp only [Act.put, List.setIfInBounds_toArray, List.set_cons_zero, List.set_cons_succ, i64_w, i32_w]
                rfl
              refine pure_ (i := 6) (N := some 142) (v := ?_) (a' := ?_) #[true, true, true, true, false, true, true, false, false, false, false, false, false, false, false, false, false, false, false, false] rfl rfl (by kernel_rfl) (fun _ _ _ h => h) (Or.inl ⟨by rfl, ?_⟩) ?_ ?_
              rotate_left
              · intro w'
                go_simp
                with_reducible rfl
              rotate_left
              · simp only [Act.put, List.setIfInBounds_toArray, List.set_cons_zero, List.set_cons_succ, i64_w, i32_w]
                rfl
              refine pure_ (i := 7) (N := some 143) (v := ?_) (a' := ?_) #[true, true, true, true, false, true, true, true, false, false, false, false, false, false, false, false, false, false, false, false] rfl rfl (by kernel_rfl) (fun _ _ _ h => h) (Or.inl ⟨by rfl, ?_⟩) ?_ ?_
              rotate_left
              · intro w'
                go_simp
                with_reducible rfl
              rotate_left
              · simp only [Act.put, List.setIfInBounds_toArray, List.set_cons_zero, List.set_cons_succ, i64_w, i32_w]
                rfl
              refine pure_ (i := 9) (N := some 145) (v := ?_) (a' := ?_) #[true, true, true, true, false, true, true, true, false, true, false, false, false, false, false, false, false, false, false, false] rfl rfl (by kernel_rfl) (fun _ _ _ h => h) (Or.inl ⟨by rfl, ?_⟩) ?_ ?_
              rotate_left
              · intro w'
                go_simp
                with_reducible rfl
              rotate_left
              · simp only [Act.put, List.setIfInBounds_toArray, List.set_cons_zero, List.set_cons_succ, i64_w, i32_w]
                rfl
              refine pure_ (i := 10) (N := some 146) (v := ?_) (a' := ?_) #[true, true, true, true, false, true, true, true, false, true, true, false, false, false, false, false, false, false, false, false] rfl rfl (by kernel_rfl) (fun _ _ _ h => h) (Or.inl ⟨by rfl, ?_⟩) ?_ ?_
              rotate_left
              · intro w'
                go_simp
                with_reducible rfl
              rotate_left
              · simp only [Act.put, List.setIfInBounds_toArray, List.set_cons_zero, List.set_cons_succ, i64_w, i32_w]
                rfl
              refine pure_ (i := 11) (N := some 147) (v := ?_) (a' := ?_) #[true, true, true, true, false, true, true, true, false, true, true, true, false, false, false, false, false, false, false, false] rfl rfl (by kernel_rfl) (fun _ _ _ h => h) (Or.inl ⟨by rfl, ?_⟩) ?_ ?_
              rotate_left
              · intro w'
                go_simp
                with_reducible rfl
              rotate_left
              · simp only [Act.put, List.setIfInBounds_toArray, List.set_cons_zero, List.set_cons_succ, i64_w, i32_w]
                rfl
              refine take_ (i := 4) (N := some 140) (v := ?_) (a' := ?_) #[true, true, true, true, true, true, true, true, false, true, true, true, false, false, false, false, false, false, false, false] rfl rfl (by kernel_rfl) (fun _ _ _ h => h) (Or.inl ⟨by rfl, ?_⟩) hHeld ?_ ?_
              rotate_left
              · rintro w' ⟨s0, s1, s2, s3, s4, s5, s6, s7⟩
                go_simp
                with_reducible rfl
              rotate_left
              · simp only [Act.put, List.setIfInBounds_toArray, List.set_cons_zero, List.set_cons_succ, i64_w, i32_w]
                rfl
              refine take_ (i := 8) (N := some 144) (v := ?_) (a' := ?_) #[true, true, true, true, true, true, true, true, true, true, true, true, false, false, false, false, false, false, false, false] rfl rfl (by kernel_rfl) (fun _ _ _ h => h) (Or.inl ⟨by rfl, ?_⟩) hHeld ?_ ?_
              rotate_left
              · rintro w' ⟨s0, s1, s2, s3, s4, s5, s6, s7⟩
                go_simp
                with_reducible rfl
              rotate_left
              · simp only [Act.put, List.setIfInBounds_toArray, List.set_cons_zero, List.set_cons_succ, i64_w, i32_w]
                rfl
              refine take_ (i := 12) (N := some 148) (v := ?_) (a' := ?_) #[true, true, true, true, true, true, true, true, true, true, true, true, true, false, false, false, false, false, false, false] rfl rfl (by kernel_rfl) (fun _ _ _ h => h) (Or.inl ⟨by rfl, ?_⟩) hHeld ?_ ?_
              rotate_left
              · rintro w' ⟨s0, s1, s2, s3, s4, s5, s6, s7⟩
                go_simp
                with_reducible rfl
              rotate_left
              · simp only [Act.put, List.setIfInBounds_toArray, List.set_cons_zero, List.set_cons_succ, i64_w, i32_w]
                rfl
              refine join_ (σ := Nat × Option Addr × Nat × Nat × Int) 2 #[true, true, true, true, true, true, true, true, true, true, true, true, true, true, true, true, true, true, false, false] (fun s => [(149, .tuple #[.agg #[.slice s.2.1 s.2.2.1 s.2.2.2.1, .int .i64 (D.room : Int), .bool D.fuse.isSome, .int .i64 s.2.2.2.2, .bool D.dead], .bool q]), (135, .tuple #[.agg #[.slice s.2.1 s.2.2.1 s.2.2.2.1, .int .i64 (D.room : Int), .bool D.fuse.isSome, .int .i64 s.2.2.2.2, .bool D.dead], .bool q]), (150, .agg #[.slice s.2.1 s.2.2.1 s.2.2.2.1, .int .i64 (D.room : Int), .bool D.fuse.isSome, .int .i64 s.2.2.2.2, .bool D.dead]), (151, .bool q), (27, .pointer (some ⟨s.1, 0, none⟩))]) (fun s w' => w'.heap[s.1]? = some (.cells #[.slice none 0 0, .int .i64 0, .bool false, .int .i64 0, .bool false] 59) ∧ IsT w' (.agg #[.slice s.2.1 s.2.2.1 s.2.2.2.1, .int .i64 (D.room : Int), .bool D.fuse.isSome, .int .i64 s.2.2.2.2, .bool D.dead]) D ∧ Kp [] w6.heap.size w6 w' ∧ w6.heap.size ≤ s.1) ?_ ?_
              rotate_left
              · intro hCont
                refine two_ (i := 13) (j := 17) (Ni := some 149) (Nj := some 27) #[true, true, true, true, true, true, true, true, true, true, true, true, true, true, false, false, false, false, false, false] #[true, true, true, true, true, true, true, true, true, true, true, true, true, false, false, false, false, true, false, false] rfl rfl rfl rfl (by kernel_rfl) (by decide) (by decide) (fun K hK => ?_) (fun K hK => ?_)
                · skip
                  refine goes_ Try.func44 (by kernel_rfl) rfl #[.agg #[.slice ao6 nf6 cap6, .int .i64 (dk.room : Int), .bool dk.fuse.isSome, .int .i64 left6, .bool dk.dead], .string ⟨nm.toArray⟩, .slice on nn cn] (by rfl) rfl rfl (by simp only [List.map_toArray, List.map_cons, List.map_nil]; rfl) ?_
                  with_reducible refine (HLD.out _ hHeld.2.2.2.2.2.2.2).mono ?_
                  rintro e w9 ⟨ao9, n9, cap9, left9, rfl, h9, k9⟩
                  refine ⟨_, rfl, ?_⟩
                  have HT9 := Lib.hid h9
                  have K9 := Lib.hid (hHeld.2.2.2.2.2.2.2.trans (k9.mono (by simp) hHeld.2.2.2.2.2.2.2.size))
                  clear h9 k9
                  refine hK.out _ _ ⟨((K9.out.cell (p := ⟨w4.heap.size, 2, none⟩) hs0 (by simp)).trans b2), ((K9.out.cell (p := ⟨w4.heap.size, 3, none⟩) hs0 (by simp)).trans b3), ((K9.out.cell (p := ⟨w4.heap.size, 4, none⟩) hs0 (by simp)).trans b4), ((K9.out.cell (p := ⟨w4.heap.size, 5, none⟩) hs0 (by simp)).trans b5), ((K9.out.cell (p := ⟨w4.heap.size, 6, none⟩) hs0 (by simp)).trans b6), ((K9.out.cell (p := ⟨w4.heap.size + 1, j, none⟩) hs1 (by simp)).trans cn6), ((K9.out.cell (p := ⟨w4.heap.size + 2, j, none⟩) hs2 (by simp)).trans cr6), K9.out⟩ (fun hHeld => ?_)
                  clear hK K
                  refine norm_ (a' := ?_) ?_ ?_
                  rotate_left
                  · show Act.put _ (some 149) _ = _
                    simp only [Act.put, List.setIfInBounds_toArray, List.set_cons_zero, List.set_cons_succ, i64_w, i32_w]
                    rfl
                  refine pure_ (i := 14) (N := some 135) (v := ?_) (a' := ?_) #[true, true, true, true, true, true, true, true, true, true, true, true, true, true, true, false, false, false, false, false] rfl rfl (by kernel_rfl) (fun _ _ _ h => h) (Or.inl ⟨by rfl, ?_⟩) ?_ ?_
                  rotate_left
                  · intro w'
                    go_simp
                    with_reducible rfl
                  rotate_left
                  · simp only [Act.put, List.setIfInBounds_toArray, List.set_cons_zero, List.set_cons_succ, i64_w, i32_w]
                    rfl
                  refine pure_ (i := 15) (N := some 150) (v := ?_) (a' := ?_) #[true, true, true, true, true, true, true, true, true, true, true, true, true, true, true, true, false, false, false, false] rfl rfl (by kernel_rfl) (fun _ _ _ h => h) (Or.inl ⟨by rfl, ?_⟩) ?_ ?_
                  rotate_left
                  · intro w'
                    go_simp
                    with_reducible rfl
                  rotate_left
                  · simp only [Act.put, List.setIfInBounds_toArray, List.set_cons_zero, List.set_cons_succ, i64_w, i32_w]
                    rfl
                  refine pure_ (i := 16) (N := some 151) (v := ?_) (a' := ?_) #[true, true, true, true, true, true, true, true, true, true, true, true, true, true, true, true, true, false, false, false] rfl rfl (by kernel_rfl) (fun _ _ _ h => h) (Or.inl ⟨by rfl, ?_⟩) ?_ ?_
                  rotate_left
                  · intro w'
                    go_simp
                    with_reducible rfl
                  rotate_left
                  · simp only [Act.put, List.setIfInBounds_toArray, List.set_cons_zero, List.set_cons_succ, i64_w, i32_w]
                    rfl
                  refine one_ (i := 17) (N := some 27) #[true, true, true, true, true, true, true, true, true, true, true, true, true, true, true, true, true, true, false, false] rfl rfl (by kernel_rfl) (by decide) (fun K hK => ?_)
                  refine value_ (w1 := ?_) (v := ?_) (by rfl) rfl ?_ ?_
                  rotate_left 2
                  · go_simp
                    constructor
                    · rfl
                    · rfl
                  have KA := Lib.hid (K9.out.alloc K9.out.size (.cells #[.slice none 0 0, .int .i64 0, .bool false, .int .i64 0, .bool false] 59))
                  have HZB := Lib.hid (World.alloc_heap_new w9 (.cells #[.slice none 0 0, .int .i64 0, .bool false, .int .i64 0, .bool false] 59))
                  refine hK.out _ _ ⟨((KA.out.cell (p := ⟨w4.heap.size, 2, none⟩) hs0 (by simp)).trans b2), ((KA.out.cell (p := ⟨w4.heap.size, 3, none⟩) hs0 (by simp)).trans b3), ((KA.out.cell (p := ⟨w4.heap.size, 4, none⟩) hs0 (by simp)).trans b4), ((KA.out.cell (p := ⟨w4.heap.size, 5, none⟩) hs0 (by simp)).trans b5), ((KA.out.cell (p := ⟨w4.heap.size, 6, none⟩) hs0 (by simp)).trans b6), ((KA.out.cell (p := ⟨w4.heap.size + 1, j, none⟩) hs1 (by simp)).trans cn6), ((KA.out.cell (p := ⟨w4.heap.size + 2, j, none⟩) hs2 (by simp)).trans cr6), KA.out⟩ (fun hHeld => ?_)
                  clear hK K
                  refine norm_ (a' := ?_) ?_ ?_
                  rotate_left
                  · show Act.put _ (some 27) _ = _
                    simp only [Act.put, List.setIfInBounds_toArray, List.set_cons_zero, List.set_cons_succ, i64_w, i32_w]
                    rfl
                  exact norm_ (by simp only [putAll, Act.put, List.setIfInBounds_toArray, List.set_cons_zero, List.set_cons_succ]) (hCont ⟨w9.heap.size, ao9, n9, cap9, left9⟩ _ ⟨HZB.out, HT9.out.kp (kp1 w9 _), KA.out, K9.out.size⟩)
                · skip
                  refine value_ (w1 := ?_) (v := ?_) (by rfl) rfl ?_ ?_
                  rotate_left 2
                  · go_simp
                    constructor
                    · rfl
                    · rfl
                  have KA := Lib.hid ((kp1 w6 (.cells #[.slice none 0 0, .int .i64 0, .bool false, .int .i64 0, .bool false] 59)).drew 1)
                  refine hK.out _ _ ⟨((KA.out.cell (p := ⟨w4.heap.size, 2, none⟩) hs0 (by simp)).trans b2), ((KA.out.cell (p := ⟨w4.heap.size, 3, none⟩) hs0 (by simp)).trans b3), ((KA.out.cell (p := ⟨w4.heap.size, 4, none⟩) hs0 (by simp)).trans b4), ((KA.out.cell (p := ⟨w4.heap.size, 5, none⟩) hs0 (by simp)).trans b5), ((KA.out.cell (p := ⟨w4.heap.size, 6, none⟩) hs0 (by simp)).trans b6), ((KA.out.cell (p := ⟨w4.heap.size + 1, j, none⟩) hs1 (by simp)).trans cn6), ((KA.out.cell (p := ⟨w4.heap.size + 2, j, none⟩) hs2 (by simp)).trans cr6), KA.out⟩ (fun hHeld => ?_)
                  clear hK K
                  refine norm_ (a' := ?_) ?_ ?_
                  rotate_left
                  · show Act.put _ (some 27) _ = _
                    simp only [Act.put, List.setIfInBounds_toArray, List.set_cons_zero, List.set_cons_succ, i64_w, i32_w]
                    rfl
                  refine one_ (i := 13) (N := some 149) #[true, true, true, true, true, true, true, true, true, true, true, true, true, true, false, false, false, true, false, false] rfl rfl (by kernel_rfl) (by decide) (fun K hK => ?_)
                  refine goes_ Try.func44 (by kernel_rfl) rfl #[.agg #[.slice ao6 nf6 cap6, .int .i64 (dk.room : Int), .bool dk.fuse.isSome, .int .i64 left6, .bool dk.dead], .string ⟨nm.toArray⟩, .slice on nn cn] (by rfl) rfl rfl (by simp only [List.map_toArray, List.map_cons, List.map_nil]; rfl) ?_
                  with_reducible refine (HLD.out _ hHeld.2.2.2.2.2.2.2).mono ?_
                  rintro e w9 ⟨ao9, n9, cap9, left9, rfl, h9, k9⟩
                  refine ⟨_, rfl, ?_⟩
                  have HT9 := Lib.hid h9
                  have K9 := Lib.hid (hHeld.2.2.2.2.2.2.2.trans (k9.mono (by simp) hHeld.2.2.2.2.2.2.2.size))
                  have hzb := (k9.block w6.heap.size (by show w6.heap.size < (w6.alloc _).heap.size; simp) (by simp)).trans (World.alloc_heap_new w6 (.cells #[.slice none 0 0, .int .i64 0, .bool false, .int .i64 0, .bool false] 59))
                  have HZB := Lib.hid hzb
                  clear hzb
                  clear h9 k9
                  refine hK.out _ _ ⟨((K9.out.cell (p := ⟨w4.heap.size, 2, none⟩) hs0 (by simp)).trans b2), ((K9.out.cell (p := ⟨w4.heap.size, 3, none⟩) hs0 (by simp)).trans b3), ((K9.out.cell (p := ⟨w4.heap.size, 4, none⟩) hs0 (by simp)).trans b4), ((K9.out.cell (p := ⟨w4.heap.size, 5, none⟩) hs0 (by simp)).trans b5), ((K9.out.cell (p := ⟨w4.heap.size, 6, none⟩) hs0 (by simp)).trans b6), ((K9.out.cell (p := ⟨w4.heap.size + 1, j, none⟩) hs1 (by simp)).trans cn6), ((K9.out.cell (p := ⟨w4.heap.size + 2, j, none⟩) hs2 (by simp)).trans cr6), K9.out⟩ (fun hHeld => ?_)
                  clear hK K
                  refine norm_ (a' := ?_) ?_ ?_
                  rotate_left
                  · show Act.put _ (some 149) _ = _
                    simp only [Act.put, List.setIfInBounds_toArray, List.set_cons_zero, List.set_cons_succ, i64_w, i32_w]
                    rfl
                  refine pure_ (i := 14) (N := some 135) (v := ?_) (a' := ?_) #[true, true, true, true, true, true, true, true, true, true, true, true, true, true, true, false, false, true, false, false] rfl rfl (by kernel_rfl) (fun _ _ _ h => h) (Or.inl ⟨by rfl, ?_⟩) ?_ ?_
                  rotate_left
                  · intro w'
                    go_simp
                    with_reducible rfl
                  rotate_left
                  · simp only [Act.put, List.setIfInBounds_toArray, List.set_cons_zero, List.set_cons_succ, i64_w, i32_w]
                    rfl
                  refine pure_ (i := 15) (N := some 150) (v := ?_) (a' := ?_) #[true, true, true, true, true, true, true, true, true, true, true, true, true, true, true, true, false, true, false, false] rfl rfl (by kernel_rfl) (fun _ _ _ h => h) (Or.inl ⟨by rfl, ?_⟩) ?_ ?_
                  rotate_left
                  · intro w'
                    go_simp
                    with_reducible rfl
                  rotate_left
                  · simp only [Act.put, List.setIfInBounds_toArray, List.set_cons_zero, List.set_cons_succ, i64_w, i32_w]
                    rfl
                  refine pure_ (i := 16) (N := some 151) (v := ?_) (a' := ?_) #[true, true, true, true, true, true, true, true, true, true, true, true, true, true, true, true, true, true, false, false] rfl rfl (by kernel_rfl) (fun _ _ _ h => h) (Or.inl ⟨by rfl, ?_⟩) ?_ ?_
                  rotate_left
                  · intro w'
                    go_simp
                    with_reducible rfl
                  rotate_left
                  · simp only [Act.put, List.setIfInBounds_toArray, List.set_cons_zero, List.set_cons_succ, i64_w, i32_w]
                    rfl
                  exact norm_ (by simp only [putAll, Act.put, List.setIfInBounds_toArray, List.set_cons_zero, List.set_cons_succ]) (hCont ⟨w6.heap.size, ao9, n9, cap9, left9⟩ _ ⟨HZB.out, HT9.out, K9.out, Nat.le_refl _⟩)
              rintro ⟨g9, ao9, n9, cap9, left9⟩ w9 ⟨hzb, h9, k9, hg9⟩
              simp only at hzb h9 hg9
              have HT9 := Lib.hid h9
              have K9 := Lib.hid k9
              have HZB := Lib.hid hzb
              obtain ⟨y0, y1, y2, y3, y4⟩ := boxT hzb
              have f0 : w9.frozen? ⟨g9, 0, none⟩ = false := Lib.frozen_of_heap hzb 0
              have f1 : w9.frozen? ⟨g9, 1, none⟩ = false := Lib.frozen_of_heap hzb 1
              have f2 : w9.frozen? ⟨g9, 2, none⟩ = false := Lib.frozen_of_heap hzb 2
              have f3 : w9.frozen? ⟨g9, 3, none⟩ = false := Lib.frozen_of_heap hzb 3
              have f4 : w9.frozen? ⟨g9, 4, none⟩ = false := Lib.frozen_of_heap hzb 4
              clear hzb h9 k9
              have hHeld : w9.cell? ⟨w4.heap.size, 2, none⟩ = some (.slice ao6 nf6 cap6) ∧ w9.cell? ⟨w4.heap.size, 3, none⟩ = some (.int .i64 (dk.room : Int)) ∧ w9.cell? ⟨w4.heap.size, 4, none⟩ = some (.bool dk.fuse.isSome) ∧ w9.cell? ⟨w4.heap.size, 5, none⟩ = some (.int .i64 left6) ∧ w9.cell? ⟨w4.heap.size, 6, none⟩ = some (.bool dk.dead) ∧ w9.cell? ⟨w4.heap.size + 1, j, none⟩ = some (.string ⟨nm.toArray⟩) ∧ w9.cell? ⟨w4.heap.size + 2, j, none⟩ = some (.slice on nn cn) ∧ Kp [] w6.heap.size w6 w9 := ⟨((K9.out.cell (p := ⟨w4.heap.size, 2, none⟩) hs0 (by simp)).trans b2), ((K9.out.cell (p := ⟨w4.heap.size, 3, none⟩) hs0 (by simp)).trans b3), ((K9.out.cell (p := ⟨w4.heap.size, 4, none⟩) hs0 (by simp)).trans b4), ((K9.out.cell (p := ⟨w4.heap.size, 5, none⟩) hs0 (by simp)).trans b5), ((K9.out.cell (p := ⟨w4.heap.size, 6, none⟩) hs0 (by simp)).trans b6), ((K9.out.cell (p := ⟨w4.heap.size + 1, j, none⟩) hs1 (by simp)).trans cn6), ((K9.out.cell (p := ⟨w4.heap.size + 2, j, none⟩) hs2 (by simp)).trans cr6), K9.out⟩
              refine norm_ (a' := ?_) ?_ ?_
              rotate_left
              · simp only [putAll, Act.put, List.setIfInBounds_toArray, List.set_cons_zero, List.set_cons_succ]
                rfl
              refine last_ (i := 18) (N := none) #[true, true, true, true, true, true, true, true, true, true, true, true, true, true, true, true, true, true, true, false] rfl rfl (by kernel_rfl) (by decide) (fun K hK => ?_)
              refine skip_ (w1 := ?_) (by rfl) rfl ?_ ?_
              rotate_left
              · go_simp
                rfl
              refine hK.out _ _ ?_
              clear hK K
              refine pure_ (i := 19) (N := some 28) (v := ?_) (a' := ?_) #[true, true, true, true, true, true, true, true, true, true, true, true, true, true, true, true, true, true, true, true] rfl rfl (by kernel_rfl) (fun _ _ _ h => h) (Or.inl ⟨by rfl, ?_⟩) ?_ ?_
              rotate_left
              · intro w'
                go_simp
                with_reducible rfl
              rotate_left
              · simp only [Act.put, List.setIfInBounds_toArray, List.set_cons_zero, List.set_cons_succ, i64_w, i32_w]
                rfl
              refine done_ (by kernel_rfl) ?_

              go_wp2
              go_meet
              have hzb := HZB.out
              have kl := set5_kp w9 g9 (.slice ao9 n9 cap9) (.int .i64 (D.room : Int)) (.bool D.fuse.isSome) (.int .i64 left9) (.bool D.dead)
              have hb := set5b hzb (.slice ao9 n9 cap9) (.int .i64 (D.room : Int)) (.bool D.fuse.isSome) (.int .i64 left9) (.bool D.dead)
              have ht := HT9.out.shun hzb (by decide) (noU8_T _ _ _ _ _ _ _) kl
              have k2 := K9.out.trans (kl.shed (B' := w6.heap.size) (by simp; omega) K9.out.size)
              exact ⟨_, rfl, rfl, ao9, n9, cap9, left9, hb, ht, k2⟩
            case rest =>
              obtain ⟨g9, rfl, rfl, hcut9⟩ := hcut
              obtain ⟨ao9, n9, cap9, left9, hb9, ht9, k9⟩ := hcut9.out
              have hx9 := (k9.block w4.heap.size (by omega) (by simp)).trans HX6'.out
              have HG9 := Lib.hid hb9
              have HT9 := Lib.hid ht9
              have HX9 := Lib.hid hx9
              have HD9 := Lib.hid (HD6.out.kp_ge k9)
              have HK9 := Lib.hid (HK6.out.trans (k9.mono (by simp) (by have := HK6.out.size; omega)))
              obtain ⟨b0, b1, b2, b3, b4, b5, b6, b7, b8⟩ := boxB hx9
              have f2 : wc.frozen? ⟨w4.heap.size, 2, none⟩ = false := Lib.frozen_of_heap hx9 2
              have f3 : wc.frozen? ⟨w4.heap.size, 3, none⟩ = false := Lib.frozen_of_heap hx9 3
              have f4 : wc.frozen? ⟨w4.heap.size, 4, none⟩ = false := Lib.frozen_of_heap hx9 4
              have f5 : wc.frozen? ⟨w4.heap.size, 5, none⟩ = false := Lib.frozen_of_heap hx9 5
              have f6 : wc.frozen? ⟨w4.heap.size, 6, none⟩ = false := Lib.frozen_of_heap hx9 6
              have hsz9 : w4.heap.size < wc.heap.size := by have := k9.size; omega
              clear hcut9 hb9 ht9 k9 hx9 HLD
              go_upto_region 22 with (refine wpList_ldT rfl _ rfl _ _ rfl HG9.out rfl ?_)
              have kl := setD_kp wc w4.heap.size (.slice ao9 n9 cap9) (.int .i64 (D.room : Int)) (.bool D.fuse.isSome) (.int .i64 left9) (.bool D.dead)
              have hb := setD HX9.out (.slice ao9 n9 cap9) (.int .i64 (D.room : Int)) (.bool D.fuse.isSome) (.int .i64 left9) (.bool D.dead)
              obtain ⟨W9, hW9⟩ : ∃ W9, W9 = (((((wc.setCell ⟨w4.heap.size, 2, none⟩ (.slice ao9 n9 cap9)).setCell ⟨w4.heap.size, 3, none⟩ (.int .i64 (D.room : Int))).setCell ⟨w4.heap.size, 4, none⟩ (.bool D.fuse.isSome)).setCell ⟨w4.heap.size, 5, none⟩ (.int .i64 left9)).setCell ⟨w4.heap.size, 6, none⟩ (.bool D.dead)) := ⟨_, rfl⟩
              rw [← hW9] at kl hb ⊢
              clear hW9 b0 b1 b2 b3 b4 b5 b6 b7 b8 f2 f3 f4 f5 f6
              have hsh : ∀ r ∈ [w4.heap.size], Shy wc r := by
                intro r hr cs T fr hbb
                obtain rfl : r = w4.heap.size := by simpa using hr
                rw [HX9.out] at hbb
                injection hbb with hbb
                injection hbb with h1 h2 _
                subst h1 h2
                exact ⟨by decide, noU8_B _ _ _ _ _ _ _ _ _ _ _⟩
              have HB9 : Hid (Both W9 (fun k => w4.heap.size < k) w4.heap.size (mb + 1) mb (.pointer none) D 0 false) :=
                ⟨HD9.out.kp kl (Nat.le_refl _) (by intro k hk; have hkg : k = w4.heap.size := (by simpa using hk); rw [hkg]; exact HBa.out), ⟨ao9, n9, cap9, left9, hb, HT9.out.shy hsh kl⟩, HBa.out⟩
              have HKW9 : Hid (Kp [w4.heap.size, mb + 1, mb] W5.heap.size W5 W9) := HK9.out.trans (kl.mono (by simp) (by have := HK9.out.size; omega))
              clear kl hb hsh HX9 HG9 HT9 HD9
              go_wp2
              go_roundw
              case rel => exact ⟨j + 1, D, by omega, by go_num, by show D.room = 3000; rw [HDq.out.1, append_room]; exact HRM.out, by rw [← HMB.out]; exact HB9.out, by rw [← HMB.out]; exact HKW9.out⟩
              case measure => simp [intOf]; omega
          · go_upto_region 24 with fail
            obtain ⟨wd, hwd⟩ : ∃ wd, wd = wr.drew := ⟨_, rfl⟩
            have hdr : Kp [] wr.heap.size wr wd := by rw [hwd]; exact (Kp.refl _ _ _).drew 1
            have v0 := (hdr.cell (p := ⟨w4.heap.size, 0, none⟩) (by show w4.heap.size < _; omega) (by simp)).trans b0
            have vn := (hdr.cell (p := ⟨w4.heap.size + 1, j, none⟩) (by show w4.heap.size + 1 < _; omega) (by simp)).trans hcn
            have vr := (hdr.cell (p := ⟨w4.heap.size + 2, j, none⟩) (by show w4.heap.size + 2 < _; omega) (by simp)).trans hcr
            have HDd := Lib.hid (HBo.out.disk.kp_ge hdr)
            have HBd := Lib.hid (HBS.out.kp hdr (by simp))
            have HTd := Lib.hid (HT6.out.kp hdr)
            have HXd := Lib.hid ((hdr.block w4.heap.size (by omega) (by simp)).trans HB6.out)
            have HKd := Lib.hid (HKr.out.trans (hdr.mono (by simp) (by omega)))
            have hwds : wr.heap.size ≤ wd.heap.size := hdr.size
            have hwdj : (j : Int) < 3 := by omega
            have hj0 : (0 : Int) ≤ (j : Int) := by omega
            clear hdr
            refine wp_region_still_tail 12 (by kernel_rfl) (by kernel_rfl) ?_
            simp only [List.take_succ_cons, List.take_zero, List.drop_succ_cons, List.drop_zero]
            change wpStill _ _ (World.drew _) (fun a' => wpList _ _ _ _ a' (World.drew _)) _ _
            rw [← hwd]
            clear hwd b0 b1 b2 b3 b4 b5 b6 b7 b8 hcn hcr
            repeat still_step
            refine wpStill_nil ?_
            go_wp2_with fail
            refine (dAppend _ _ _ dk nm bs _ _ wd HDd.out (by have := HNL.out; unfold maxLen; omega) HBd.out (by omega) (by have := HBL.out; omega) (fun k hk => by omega)).mono ?_
            rintro e w6 ⟨rfl, hd6, k6⟩
            obtain ⟨D, hD⟩ : ∃ D, D = (dk.append nm bs).1 := ⟨_, rfl⟩
            obtain ⟨q, hq⟩ : ∃ q, q = (dk.append nm bs).2 := ⟨_, rfl⟩
            rw [← hD] at hd6
            rw [← hq]
            have HDq : Hid (D = (dk.append nm bs).1 ∧ q = (dk.append nm bs).2) := ⟨hD, hq⟩
            have HD6 := Lib.hid hd6
            have hbx6 := (k6.block w4.heap.size (by omega) (by simp; omega)).trans HXd.out
            obtain ⟨b0, b1, b2, b3, b4, b5, b6, b7, b8⟩ := boxB hbx6
            have hwd6 := k6.size
            have cn6 := (k6.cell (p := ⟨w4.heap.size + 1, j, none⟩) (by show w4.heap.size + 1 < _; omega) (by simp; omega)).trans vn
            have cr6 := (k6.cell (p := ⟨w4.heap.size + 2, j, none⟩) (by show w4.heap.size + 2 < _; omega) (by simp; omega)).trans vr
            have HX6 := Lib.hid hbx6
            have HS6 := Lib.hid (HBd.out.kp k6 (by simp <;> omega))
            have HU6 := Lib.hid (HTd.out.shy HDd.out.shy k6)
            have HK6 := Lib.hid (HKd.out.trans (k6.mono (by simp) (by omega)))
            have HBa := Lib.hid HBo.out.apart
            clear k6 v0 vn vr hbx6 hd6 hD hq HDd HBd HTd HXd HKd HBo HBS HT6 HB6
            go_upto_region 25 with fail
            have HLD : Hid (∀ W, Kp [] w6.heap.size w6 W → Calls Try.prog 44 #[.agg #[.slice ao6 nf6 cap6, .int .i64 (dk.room : Int), .bool dk.fuse.isSome, .int .i64 left6, .bool dk.dead], .string ⟨nm.toArray⟩, .slice on nn cn] W fun e w' => ∃ ao9 n9 cap9 left9, e = .returned (.tuple #[.agg #[.slice ao9 n9 cap9, .int .i64 (D.room : Int), .bool D.fuse.isSome, .int .i64 left9, .bool D.dead], .bool q]) ∧ IsT w' (.agg #[.slice ao9 n9 cap9, .int .i64 (D.room : Int), .bool D.fuse.isSome, .int .i64 left9, .bool D.dead]) D ∧ Kp [] W.heap.size W w') := Lib.hid fun W hk => by
              refine (rAppend dk _ nm bs _ W (HU6.out.kp hk) (HS6.out.kp hk (by simp)) (by have := HNL.out; unfold maxLen; omega) (by have := HBL.out; omega)).mono ?_
              rintro e w9 ⟨v9, rfl, h9, k9⟩
              obtain ⟨ao9, n9, cap9, left9, rfl, -⟩ := h9.form
              rw [← HDq.out.1] at h9 ⊢
              rw [← HDq.out.2]
              exact ⟨ao9, n9, cap9, left9, rfl, h9, k9⟩
            obtain ⟨mb, hmb⟩ : ∃ mb, mb = wc.heap.size := ⟨_, rfl⟩
            rw [← hmb] at HD6 HK6 HBa b0
            have HMB := Lib.hid hmb
            have HX6' : Hid (w6.heap[w4.heap.size]? = some (.cells #[.pointer (some ⟨mb + 1, 0, none⟩), .pointer none, .slice ao6 nf6 cap6, .int .i64 (dk.room : Int), .bool dk.fuse.isSome, .int .i64 left6, .bool dk.dead, .int .u64 ((0 : Nat) : Int), .bool false] 78 (0, 0))) := Lib.hid (by have := HX6.out; rw [← hmb] at this; exact this)
            clear hmb HX6
            go_cut [27, 28] from 112 to 156 (fun pg one wx => ∃ (g : Nat), pg = .pointer (some ⟨g, 0, none⟩) ∧ one = .bool q ∧ Hid (∃ ao9 n9 cap9 left9, wx.heap[g]? = some (.cells #[.slice ao9 n9 cap9, .int .i64 (D.room : Int), .bool D.fuse.isSome, .int .i64 left9, .bool D.dead] 59 (0, 0)) ∧ IsT wx (.agg #[.slice ao9 n9 cap9, .int .i64 (D.room : Int), .bool D.fuse.isSome, .int .i64 left9, .bool D.dead]) D ∧ Kp [] w6.heap.size w6 wx))
            case first =>
              have kz6 : Kp [] w6.heap.size w6 w6.drew := (Kp.refl _ _ _).drew 1
              have hs0 : w4.heap.size < w6.heap.size := by omega
              have hs1 : w4.heap.size + 1 < w6.heap.size := by omega
              have hs2 : w4.heap.size + 2 < w6.heap.size := by omega
              refine start_ (n := 20) (S := fun w' => w'.cell? ⟨w4.heap.size, 2, none⟩ = some (.slice ao6 nf6 cap6) ∧ w'.cell? ⟨w4.heap.size, 3, none⟩ = some (.int .i64 (dk.room : Int)) ∧ w'.cell? ⟨w4.heap.size, 4, none⟩ = some (.bool dk.fuse.isSome) ∧ w'.cell? ⟨w4.heap.size, 5, none⟩ = some (.int .i64 left6) ∧ w'.cell? ⟨w4.heap.size, 6, none⟩ = some (.bool dk.dead) ∧ w'.cell? ⟨w4.heap.size + 1, j, none⟩ = some (.string ⟨nm.toArray⟩) ∧ w'.cell? ⟨w4.heap.size + 2, j, none⟩ = some (.slice on nn cn) ∧ Kp [] w6.heap.size w6 w') (ds := [18]) #[false, false, false, false, false, false, false, false, false, false, false, false, false, false, false, false, false, false, false, false] (by kernel_rfl) rfl rfl ⟨(by exact b2), (by exact b3), (by exact b4), (by exact b5), (by exact b6), (by exact cn6), (by exact cr6), kz6⟩ (fun hHeld => ?_)
              refine pure_ (i := 0) (N := some 136) (v := ?_) (a' := ?_) #[true, false, false, false, false, false, false, false, false, false, false, false, false, false, false, false, false, false, false, false] rfl rfl (by kernel_rfl) (fun _ _ _ h => h) (Or.inl ⟨by rfl, ?_⟩) ?_ ?_
              rotate_left
              · intro w'
                go_simp
                with_reducible rfl
              rotate_left
              · simp only [Act.put, List.setIfInBounds_toArray, List.set_cons_zero, List.set_cons_succ, i64_w, i32_w]
                rfl
              refine pure_ (i := 1) (N := some 137) (v := ?_) (a' := ?_) #[true, true, false, false, false, false, false, false, false, false, false, false, false, false, false, false, false, false, false, false] rfl rfl (by kernel_rfl) (fun _ _ _ h => h) (Or.inl ⟨by rfl, ?_⟩) ?_ ?_
              rotate_left
              · intro w'
                go_simp
                with_reducible rfl
              rotate_left
              · simp only [Act.put, List.setIfInBounds_toArray, List.set_cons_zero, List.set_cons_succ, i64_w, i32_w]
                rfl
              refine pure_ (i := 2) (N := some 138) (v := ?_) (a' := ?_) #[true, true, true, false, false, false, false, false, false, false, false, false, false, false, false, false, false, false, false, false] rfl rfl (by kernel_rfl) (fun _ _ _ h => h) (Or.inl ⟨by rfl, ?_⟩) ?_ ?_
              rotate_left
              · intro w'
                go_simp
                with_reducible rfl
              rotate_left
              · simp only [Act.put, List.setIfInBounds_toArray, List.set_cons_zero, List.set_cons_succ, i64_w, i32_w]
                rfl
              refine pure_ (i := 3) (N := some 139) (v := ?_) (a' := ?_) #[true, true, true, true, false, false, false, false, false, false, false, false, false, false, false, false, false, false, false, false] rfl rfl (by kernel_rfl) (fun _ _ _ h => h) (Or.inl ⟨by rfl, ?_⟩) ?_ ?_
              rotate_left
              · intro w'
                go_simp
                with_reducible rfl
              rotate_left
              · simp only [Act.put, List.setIfInBounds_toArray, List.set_cons_zero, List.set_cons_succ, i64_w, i32_w]
                rfl
              refine pure_ (i := 5) (N := some 141) (v := ?_) (a' := ?_) #[true, true, true, true, false, true, false, false, false, false, false, false, false, false, false, false, false, false, false, false] rfl rfl (by kernel_rfl) (fun _ _ _ h => h) (Or.inl ⟨by rfl, ?_⟩) ?_ ?_
              rotate_left
              · intro w'
                go_simp
                with_reducible rfl
              rotate_left
              · simp only [Act.put, List.setIfInBounds_toArray, List.set_cons_zero, List.set_cons_succ, i64_w, i32_w]
                rfl
              refine pure_ (i := 6) (N := some 142) (v := ?_) (a' := ?_) #[true, true, true, true, false, true, true, false, false, false, false, false, false, false, false, false, false, false, false, false] rfl rfl (by kernel_rfl) (fun _ _ _ h => h) (Or.inl ⟨by rfl, ?_⟩) ?_ ?_
              rotate_left
              · intro w'
                go_simp
                with_reducible rfl
              rotate_left
              · simp only [Act.put, List.setIfInBounds_toArray, List.set_cons_zero, List.set_cons_succ, i64_w, i32_w]
                rfl
              refine pure_ (i := 7) (N := some 143) (v := ?_) (a' := ?_) #[true, true, true, true, false, true, true, true, false, false, false, false, false, false, false, false, false, false, false, false] rfl rfl (by kernel_rfl) (fun _ _ _ h => h) (Or.inl ⟨by rfl, ?_⟩) ?_ ?_
              rotate_left
              · intro w'
                go_simp
                with_reducible rfl
              rotate_left
              · simp only [Act.put, List.setIfInBounds_toArray, List.set_cons_zero, List.set_cons_succ, i64_w, i32_w]
                rfl
              refine pure_ (i := 9) (N := some 145) (v := ?_) (a' := ?_) #[true, true, true, true, false, true, true, true, false, true, false, false, false, false, false, false, false, false, false, false] rfl rfl (by kernel_rfl) (fun _ _ _ h => h) (Or.inl ⟨by rfl, ?_⟩) ?_ ?_
              rotate_left
              · intro w'
                go_simp
                with_reducible rfl
              rotate_left
              · simp only [Act.put, List.setIfInBounds_toArray, List.set_cons_zero, List.set_cons_succ, i64_w, i32_w]
                rfl
              refine pure_ (i := 10) (N := some 146) (v := ?_) (a' := ?_) #[true, true, true, true, false, true, true, true, false, true, true, false, false, false, false, false, false, false, false, false] rfl rfl (by kernel_rfl) (fun _ _ _ h => h) (Or.inl ⟨by rfl, ?_⟩) ?_ ?_
              rotate_left
              · intro w'
                go_simp
                with_reducible rfl
              rotate_left
              · simp only [Act.put, List.setIfInBounds_toArray, List.set_cons_zero, List.set_cons_succ, i64_w, i32_w]
                rfl
              refine pure_ (i := 11) (N := some 147) (v := ?_) (a' := ?_) #[true, true, true, true, false, true, true, true, false, true, true, true, false, false, false, false, false, false, false, false] rfl rfl (by kernel_rfl) (fun _ _ _ h => h) (Or.inl ⟨by rfl, ?_⟩) ?_ ?_
              rotate_left
              · intro w'
                go_simp
                with_reducible rfl
              rotate_left
              · simp only [Act.put, List.setIfInBounds_toArray, List.set_cons_zero, List.set_cons_succ, i64_w, i32_w]
                rfl
              refine take_ (i := 4) (N := some 140) (v := ?_) (a' := ?_) #[true, true, true, true, true, true, true, true, false, true, true, true, false, false, false, false, false, false, false, false] rfl rfl (by kernel_rfl) (fun _ _ _ h => h) (Or.inl ⟨by rfl, ?_⟩) hHeld ?_ ?_
              rotate_left
              · rintro w' ⟨s0, s1, s2, s3, s4, s5, s6, s7⟩
                go_simp
                with_reducible rfl
              rotate_left
              · simp only [Act.put, List.setIfInBounds_toArray, List.set_cons_zero, List.set_cons_succ, i64_w, i32_w]
                rfl
              refine take_ (i := 8) (N := some 144) (v := ?_) (a' := ?_) #[true, true, true, true, true, true, true, true, true, true, true, true, false, false, false, false, false, false, false, false] rfl rfl (by kernel_rfl) (fun _ _ _ h => h) (Or.inl ⟨by rfl, ?_⟩) hHeld ?_ ?_
              rotate_left
              · rintro w' ⟨s0, s1, s2, s3, s4, s5, s6, s7⟩
                go_simp
                with_reducible rfl
              rotate_left
              · simp only [Act.put, List.setIfInBounds_toArray, List.set_cons_zero, List.set_cons_succ, i64_w, i32_w]
                rfl
              refine take_ (i := 12) (N := some 148) (v := ?_) (a' := ?_) #[true, true, true, true, true, true, true, true, true, true, true, true, true, false, false, false, false, false, false, false] rfl rfl (by kernel_rfl) (fun _ _ _ h => h) (Or.inl ⟨by rfl, ?_⟩) hHeld ?_ ?_
              rotate_left
              · rintro w' ⟨s0, s1, s2, s3, s4, s5, s6, s7⟩
                go_simp
                with_reducible rfl
              rotate_left
              · simp only [Act.put, List.setIfInBounds_toArray, List.set_cons_zero, List.set_cons_succ, i64_w, i32_w]
                rfl
              refine join_ (σ := Nat × Option Addr × Nat × Nat × Int) 2 #[true, true, true, true, true, true, true, true, true, true, true, true, true, true, true, true, true, true, false, false] (fun s => [(149, .tuple #[.agg #[.slice s.2.1 s.2.2.1 s.2.2.2.1, .int .i64 (D.room : Int), .bool D.fuse.isSome, .int .i64 s.2.2.2.2, .bool D.dead], .bool q]), (135, .tuple #[.agg #[.slice s.2.1 s.2.2.1 s.2.2.2.1, .int .i64 (D.room : Int), .bool D.fuse.isSome, .int .i64 s.2.2.2.2, .bool D.dead], .bool q]), (150, .agg #[.slice s.2.1 s.2.2.1 s.2.2.2.1, .int .i64 (D.room : Int), .bool D.fuse.isSome, .int .i64 s.2.2.2.2, .bool D.dead]), (151, .bool q), (27, .pointer (some ⟨s.1, 0, none⟩))]) (fun s w' => w'.heap[s.1]? = some (.cells #[.slice none 0 0, .int .i64 0, .bool false, .int .i64 0, .bool false] 59) ∧ IsT w' (.agg #[.slice s.2.1 s.2.2.1 s.2.2.2.1, .int .i64 (D.room : Int), .bool D.fuse.isSome, .int .i64 s.2.2.2.2, .bool D.dead]) D ∧ Kp [] w6.heap.size w6 w' ∧ w6.heap.size ≤ s.1) ?_ ?_
              rotate_left
              · intro hCont
                refine two_ (i := 13) (j := 17) (Ni := some 149) (Nj := some 27) #[true, true, true, true, true, true, true, true, true, true, true, true, true, true, false, false, false, false, false, false] #[true, true, true, true, true, true, true, true, true, true, true, true, true, false, false, false, false, true, false, false] rfl rfl rfl rfl (by kernel_rfl) (by decide) (by decide) (fun K hK => ?_) (fun K hK => ?_)
                · skip
                  refine goes_ Try.func44 (by kernel_rfl) rfl #[.agg #[.slice ao6 nf6 cap6, .int .i64 (dk.room : Int), .bool dk.fuse.isSome, .int .i64 left6, .bool dk.dead], .string ⟨nm.toArray⟩, .slice on nn cn] (by rfl) rfl rfl (by simp only [List.map_toArray, List.map_cons, List.map_nil]; rfl) ?_
                  with_reducible refine (HLD.out _ hHeld.2.2.2.2.2.2.2).mono ?_
                  rintro e w9 ⟨ao9, n9, cap9, left9, rfl, h9, k9⟩
                  refine ⟨_, rfl, ?_⟩
                  have HT9 := Lib.hid h9
                  have K9 := Lib.hid (hHeld.2.2.2.2.2.2.2.trans (k9.mono (by simp) hHeld.2.2.2.2.2.2.2.size))
                  clear h9 k9
                  refine hK.out _ _ ⟨((K9.out.cell (p := ⟨w4.heap.size, 2, none⟩) hs0 (by simp)).trans b2), ((K9.out.cell (p := ⟨w4.heap.size, 3, none⟩) hs0 (by simp)).trans b3), ((K9.out.cell (p := ⟨w4.heap.size, 4, none⟩) hs0 (by simp)).trans b4), ((K9.out.cell (p := ⟨w4.heap.size, 5, none⟩) hs0 (by simp)).trans b5), ((K9.out.cell (p := ⟨w4.heap.size, 6, none⟩) hs0 (by simp)).trans b6), ((K9.out.cell (p := ⟨w4.heap.size + 1, j, none⟩) hs1 (by simp)).trans cn6), ((K9.out.cell (p := ⟨w4.heap.size + 2, j, none⟩) hs2 (by simp)).trans cr6), K9.out⟩ (fun hHeld => ?_)
                  clear hK K
                  refine norm_ (a' := ?_) ?_ ?_
                  rotate_left
                  · show Act.put _ (some 149) _ = _
                    simp only [Act.put, List.setIfInBounds_toArray, List.set_cons_zero, List.set_cons_succ, i64_w, i32_w]
                    rfl
                  refine pure_ (i := 14) (N := some 135) (v := ?_) (a' := ?_) #[true, true, true, true, true, true, true, true, true, true, true, true, true, true, true, false, false, false, false, false] rfl rfl (by kernel_rfl) (fun _ _ _ h => h) (Or.inl ⟨by rfl, ?_⟩) ?_ ?_
                  rotate_left
                  · intro w'
                    go_simp
                    with_reducible rfl
                  rotate_left
                  · simp only [Act.put, List.setIfInBounds_toArray, List.set_cons_zero, List.set_cons_succ, i64_w, i32_w]
                    rfl
                  refine pure_ (i := 15) (N := some 150) (v := ?_) (a' := ?_) #[true, true, true, true, true, true, true, true, true, true, true, true, true, true, true, true, false, false, false, false] rfl rfl (by kernel_rfl) (fun _ _ _ h => h) (Or.inl ⟨by rfl, ?_⟩) ?_ ?_
                  rotate_left
                  · intro w'
                    go_simp
                    with_reducible rfl
                  rotate_left
                  · simp only [Act.put, List.setIfInBounds_toArray, List.set_cons_zero, List.set_cons_succ, i64_w, i32_w]
                    rfl
                  refine pure_ (i := 16) (N := some 151) (v := ?_) (a' := ?_) #[true, true, true, true, true, true, true, true, true, true, true, true, true, true, true, true, true, false, false, false] rfl rfl (by kernel_rfl) (fun _ _ _ h => h) (Or.inl ⟨by rfl, ?_⟩) ?_ ?_
                  rotate_left
                  · intro w'
                    go_simp
                    with_reducible rfl
                  rotate_left
                  · simp only [Act.put, List.setIfInBounds_toArray, List.set_cons_zero, List.set_cons_succ, i64_w, i32_w]
                    rfl
                  refine one_ (i := 17) (N := some 27) #[true, true, true, true, true, true, true, true, true, true, true, true, true, true, true, true, true, true, false, false] rfl rfl (by kernel_rfl) (by decide) (fun K hK => ?_)
                  refine value_ (w1 := ?_) (v := ?_) (by rfl) rfl ?_ ?_
                  rotate_left 2
                  · go_simp
                    constructor
                    · rfl
                    · rfl
                  have KA := Lib.hid (K9.out.alloc K9.out.size (.cells #[.slice none 0 0, .int .i64 0, .bool false, .int .i64 0, .bool false] 59))
                  have HZB := Lib.hid (World.alloc_heap_new w9 (.cells #[.slice none 0 0, .int .i64 0, .bool false, .int .i64 0, .bool false] 59))
                  refine hK.out _ _ ⟨((KA.out.cell (p := ⟨w4.heap.size, 2, none⟩) hs0 (by simp)).trans b2), ((KA.out.cell (p := ⟨w4.heap.size, 3, none⟩) hs0 (by simp)).trans b3), ((KA.out.cell (p := ⟨w4.heap.size, 4, none⟩) hs0 (by simp)).trans b4), ((KA.out.cell (p := ⟨w4.heap.size, 5, none⟩) hs0 (by simp)).trans b5), ((KA.out.cell (p := ⟨w4.heap.size, 6, none⟩) hs0 (by simp)).trans b6), ((KA.out.cell (p := ⟨w4.heap.size + 1, j, none⟩) hs1 (by simp)).trans cn6), ((KA.out.cell (p := ⟨w4.heap.size + 2, j, none⟩) hs2 (by simp)).trans cr6), KA.out⟩ (fun hHeld => ?_)
                  clear hK K
                  refine norm_ (a' := ?_) ?_ ?_
                  rotate_left
                  · show Act.put _ (some 27) _ = _
                    simp only [Act.put, List.setIfInBounds_toArray, List.set_cons_zero, List.set_cons_succ, i64_w, i32_w]
                    rfl
                  exact norm_ (by simp only [putAll, Act.put, List.setIfInBounds_toArray, List.set_cons_zero, List.set_cons_succ]) (hCont ⟨w9.heap.size, ao9, n9, cap9, left9⟩ _ ⟨HZB.out, HT9.out.kp (kp1 w9 _), KA.out, K9.out.size⟩)
                · skip
                  refine value_ (w1 := ?_) (v := ?_) (by rfl) rfl ?_ ?_
                  rotate_left 2
                  · go_simp
                    constructor
                    · rfl
                    · rfl
                  have KA := Lib.hid ((kp1 w6 (.cells #[.slice none 0 0, .int .i64 0, .bool false, .int .i64 0, .bool false] 59)).drew 1)
                  refine hK.out _ _ ⟨((KA.out.cell (p := ⟨w4.heap.size, 2, none⟩) hs0 (by simp)).trans b2), ((KA.out.cell (p := ⟨w4.heap.size, 3, none⟩) hs0 (by simp)).trans b3), ((KA.out.cell (p := ⟨w4.heap.size, 4, none⟩) hs0 (by simp)).trans b4), ((KA.out.cell (p := ⟨w4.heap.size, 5, none⟩) hs0 (by simp)).trans b5), ((KA.out.cell (p := ⟨w4.heap.size, 6, none⟩) hs0 (by simp)).trans b6), ((KA.out.cell (p := ⟨w4.heap.size + 1, j, none⟩) hs1 (by simp)).trans cn6), ((KA.out.cell (p := ⟨w4.heap.size + 2, j, none⟩) hs2 (by simp)).trans cr6), KA.out⟩ (fun hHeld => ?_)
                  clear hK K
                  refine norm_ (a' := ?_) ?_ ?_
                  rotate_left
                  · show Act.put _ (some 27) _ = _
                    simp only [Act.put, List.setIfInBounds_toArray, List.set_cons_zero, List.set_cons_succ, i64_w, i32_w]
                    rfl
                  refine one_ (i := 13) (N := some 149) #[true, true, true, true, true, true, true, true, true, true, true, true, true, true, false, false, false, true, false, false] rfl rfl (by kernel_rfl) (by decide) (fun K hK => ?_)
                  refine goes_ Try.func44 (by kernel_rfl) rfl #[.agg #[.slice ao6 nf6 cap6, .int .i64 (dk.room : Int), .bool dk.fuse.isSome, .int .i64 left6, .bool dk.dead], .string ⟨nm.toArray⟩, .slice on nn cn] (by rfl) rfl rfl (by simp only [List.map_toArray, List.map_cons, List.map_nil]; rfl) ?_
                  with_reducible refine (HLD.out _ hHeld.2.2.2.2.2.2.2).mono ?_
                  rintro e w9 ⟨ao9, n9, cap9, left9, rfl, h9, k9⟩
                  refine ⟨_, rfl, ?_⟩
                  have HT9 := Lib.hid h9
                  have K9 := Lib.hid (hHeld.2.2.2.2.2.2.2.trans (k9.mono (by simp) hHeld.2.2.2.2.2.2.2.size))
                  have hzb := (k9.block w6.heap.size (by show w6.heap.size < (w6.alloc _).heap.size; simp) (by simp)).trans (World.alloc_heap_new w6 (.cells #[.slice none 0 0, .int .i64 0, .bool false, .int .i64 0, .bool false] 59))
                  have HZB := Lib.hid hzb
                  clear hzb
                  clear h9 k9
                  refine hK.out _ _ ⟨((K9.out.cell (p := ⟨w4.heap.size, 2, none⟩) hs0 (by simp)).trans b2), ((K9.out.cell (p := ⟨w4.heap.size, 3, none⟩) hs0 (by simp)).trans b3), ((K9.out.cell (p := ⟨w4.heap.size, 4, none⟩) hs0 (by simp)).trans b4), ((K9.out.cell (p := ⟨w4.heap.size, 5, none⟩) hs0 (by simp)).trans b5), ((K9.out.cell (p := ⟨w4.heap.size, 6, none⟩) hs0 (by simp)).trans b6), ((K9.out.cell (p := ⟨w4.heap.size + 1, j, none⟩) hs1 (by simp)).trans cn6), ((K9.out.cell (p := ⟨w4.heap.size + 2, j, none⟩) hs2 (by simp)).trans cr6), K9.out⟩ (fun hHeld => ?_)
                  clear hK K
                  refine norm_ (a' := ?_) ?_ ?_
                  rotate_left
                  · show Act.put _ (some 149) _ = _
                    simp only [Act.put, List.setIfInBounds_toArray, List.set_cons_zero, List.set_cons_succ, i64_w, i32_w]
                    rfl
                  refine pure_ (i := 14) (N := some 135) (v := ?_) (a' := ?_) #[true, true, true, true, true, true, true, true, true, true, true, true, true, true, true, false, false, true, false, false] rfl rfl (by kernel_rfl) (fun _ _ _ h => h) (Or.inl ⟨by rfl, ?_⟩) ?_ ?_
                  rotate_left
                  · intro w'
                    go_simp
                    with_reducible rfl
                  rotate_left
                  · simp only [Act.put, List.setIfInBounds_toArray, List.set_cons_zero, List.set_cons_succ, i64_w, i32_w]
                    rfl
                  refine pure_ (i := 15) (N := some 150) (v := ?_) (a' := ?_) #[true, true, true, true, true, true, true, true, true, true, true, true, true, true, true, true, false, true, false, false] rfl rfl (by kernel_rfl) (fun _ _ _ h => h) (Or.inl ⟨by rfl, ?_⟩) ?_ ?_
                  rotate_left
                  · intro w'
                    go_simp
                    with_reducible rfl
                  rotate_left
                  · simp only [Act.put, List.setIfInBounds_toArray, List.set_cons_zero, List.set_cons_succ, i64_w, i32_w]
                    rfl
                  refine pure_ (i := 16) (N := some 151) (v := ?_) (a' := ?_) #[true, true, true, true, true, true, true, true, true, true, true, true, true, true, true, true, true, true, false, false] rfl rfl (by kernel_rfl) (fun _ _ _ h => h) (Or.inl ⟨by rfl, ?_⟩) ?_ ?_
                  rotate_left
                  · intro w'
                    go_simp
                    with_reducible rfl
                  rotate_left
                  · simp only [Act.put, List.setIfInBounds_toArray, List.set_cons_zero, List.set_cons_succ, i64_w, i32_w]
                    rfl
                  exact norm_ (by simp only [putAll, Act.put, List.setIfInBounds_toArray, List.set_cons_zero, List.set_cons_succ]) (hCont ⟨w6.heap.size, ao9, n9, cap9, left9⟩ _ ⟨HZB.out, HT9.out, K9.out, Nat.le_refl _⟩)
              rintro ⟨g9, ao9, n9, cap9, left9⟩ w9 ⟨hzb, h9, k9, hg9⟩
              simp only at hzb h9 hg9
              have HT9 := Lib.hid h9
              have K9 := Lib.hid k9
              have HZB := Lib.hid hzb
              obtain ⟨y0, y1, y2, y3, y4⟩ := boxT hzb
              have f0 : w9.frozen? ⟨g9, 0, none⟩ = false := Lib.frozen_of_heap hzb 0
              have f1 : w9.frozen? ⟨g9, 1, none⟩ = false := Lib.frozen_of_heap hzb 1
              have f2 : w9.frozen? ⟨g9, 2, none⟩ = false := Lib.frozen_of_heap hzb 2
              have f3 : w9.frozen? ⟨g9, 3, none⟩ = false := Lib.frozen_of_heap hzb 3
              have f4 : w9.frozen? ⟨g9, 4, none⟩ = false := Lib.frozen_of_heap hzb 4
              clear hzb h9 k9
              have hHeld : w9.cell? ⟨w4.heap.size, 2, none⟩ = some (.slice ao6 nf6 cap6) ∧ w9.cell? ⟨w4.heap.size, 3, none⟩ = some (.int .i64 (dk.room : Int)) ∧ w9.cell? ⟨w4.heap.size, 4, none⟩ = some (.bool dk.fuse.isSome) ∧ w9.cell? ⟨w4.heap.size, 5, none⟩ = some (.int .i64 left6) ∧ w9.cell? ⟨w4.heap.size, 6, none⟩ = some (.bool dk.dead) ∧ w9.cell? ⟨w4.heap.size + 1, j, none⟩ = some (.string ⟨nm.toArray⟩) ∧ w9.cell? ⟨w4.heap.size + 2, j, none⟩ = some (.slice on nn cn) ∧ Kp [] w6.heap.size w6 w9 := ⟨((K9.out.cell (p := ⟨w4.heap.size, 2, none⟩) hs0 (by simp)).trans b2), ((K9.out.cell (p := ⟨w4.heap.size, 3, none⟩) hs0 (by simp)).trans b3), ((K9.out.cell (p := ⟨w4.heap.size, 4, none⟩) hs0 (by simp)).trans b4), ((K9.out.cell (p := ⟨w4.heap.size, 5, none⟩) hs0 (by simp)).trans b5), ((K9.out.cell (p := ⟨w4.heap.size, 6, none⟩) hs0 (by simp)).trans b6), ((K9.out.cell (p := ⟨w4.heap.size + 1, j, none⟩) hs1 (by simp)).trans cn6), ((K9.out.cell (p := ⟨w4.heap.size + 2, j, none⟩) hs2 (by simp)).trans cr6), K9.out⟩
              refine norm_ (a' := ?_) ?_ ?_
              rotate_left
              · simp only [putAll, Act.put, List.setIfInBounds_toArray, List.set_cons_zero, List.set_cons_succ]
                rfl
              refine last_ (i := 18) (N := none) #[true, true, true, true, true, true, true, true, true, true, true, true, true, true, true, true, true, true, true, false] rfl rfl (by kernel_rfl) (by decide) (fun K hK => ?_)
              refine skip_ (w1 := ?_) (by rfl) rfl ?_ ?_
              rotate_left
              · go_simp
                rfl
              refine hK.out _ _ ?_
              clear hK K
              refine pure_ (i := 19) (N := some 28) (v := ?_) (a' := ?_) #[true, true, true, true, true, true, true, true, true, true, true, true, true, true, true, true, true, true, true, true] rfl rfl (by kernel_rfl) (fun _ _ _ h => h) (Or.inl ⟨by rfl, ?_⟩) ?_ ?_
              rotate_left
              · intro w'
                go_simp
                with_reducible rfl
              rotate_left
              · simp only [Act.put, List.setIfInBounds_toArray, List.set_cons_zero, List.set_cons_succ, i64_w, i32_w]
                rfl
              refine done_ (by kernel_rfl) ?_

              go_wp2
              go_meet
              have hzb := HZB.out
              have kl := set5_kp w9 g9 (.slice ao9 n9 cap9) (.int .i64 (D.room : Int)) (.bool D.fuse.isSome) (.int .i64 left9) (.bool D.dead)
              have hb := set5b hzb (.slice ao9 n9 cap9) (.int .i64 (D.room : Int)) (.bool D.fuse.isSome) (.int .i64 left9) (.bool D.dead)
              have ht := HT9.out.shun hzb (by decide) (noU8_T _ _ _ _ _ _ _) kl
              have k2 := K9.out.trans (kl.shed (B' := w6.heap.size) (by simp; omega) K9.out.size)
              exact ⟨_, rfl, rfl, ao9, n9, cap9, left9, hb, ht, k2⟩
            case rest =>
              obtain ⟨g9, rfl, rfl, hcut9⟩ := hcut
              obtain ⟨ao9, n9, cap9, left9, hb9, ht9, k9⟩ := hcut9.out
              have hx9 := (k9.block w4.heap.size (by omega) (by simp)).trans HX6'.out
              have HG9 := Lib.hid hb9
              have HT9 := Lib.hid ht9
              have HX9 := Lib.hid hx9
              have HD9 := Lib.hid (HD6.out.kp_ge k9)
              have HK9 := Lib.hid (HK6.out.trans (k9.mono (by simp) (by have := HK6.out.size; omega)))
              obtain ⟨b0, b1, b2, b3, b4, b5, b6, b7, b8⟩ := boxB hx9
              have f2 : wc.frozen? ⟨w4.heap.size, 2, none⟩ = false := Lib.frozen_of_heap hx9 2
              have f3 : wc.frozen? ⟨w4.heap.size, 3, none⟩ = false := Lib.frozen_of_heap hx9 3
              have f4 : wc.frozen? ⟨w4.heap.size, 4, none⟩ = false := Lib.frozen_of_heap hx9 4
              have f5 : wc.frozen? ⟨w4.heap.size, 5, none⟩ = false := Lib.frozen_of_heap hx9 5
              have f6 : wc.frozen? ⟨w4.heap.size, 6, none⟩ = false := Lib.frozen_of_heap hx9 6
              have hsz9 : w4.heap.size < wc.heap.size := by have := k9.size; omega
              clear hcut9 hb9 ht9 k9 hx9 HLD
              go_upto_region 22 with (refine wpList_ldT rfl _ rfl _ _ rfl HG9.out rfl ?_)
              have kl := setD_kp wc w4.heap.size (.slice ao9 n9 cap9) (.int .i64 (D.room : Int)) (.bool D.fuse.isSome) (.int .i64 left9) (.bool D.dead)
              have hb := setD HX9.out (.slice ao9 n9 cap9) (.int .i64 (D.room : Int)) (.bool D.fuse.isSome) (.int .i64 left9) (.bool D.dead)
              obtain ⟨W9, hW9⟩ : ∃ W9, W9 = (((((wc.setCell ⟨w4.heap.size, 2, none⟩ (.slice ao9 n9 cap9)).setCell ⟨w4.heap.size, 3, none⟩ (.int .i64 (D.room : Int))).setCell ⟨w4.heap.size, 4, none⟩ (.bool D.fuse.isSome)).setCell ⟨w4.heap.size, 5, none⟩ (.int .i64 left9)).setCell ⟨w4.heap.size, 6, none⟩ (.bool D.dead)) := ⟨_, rfl⟩
              rw [← hW9] at kl hb ⊢
              clear hW9 b0 b1 b2 b3 b4 b5 b6 b7 b8 f2 f3 f4 f5 f6
              have hsh : ∀ r ∈ [w4.heap.size], Shy wc r := by
                intro r hr cs T fr hbb
                obtain rfl : r = w4.heap.size := by simpa using hr
                rw [HX9.out] at hbb
                injection hbb with hbb
                injection hbb with h1 h2 _
                subst h1 h2
                exact ⟨by decide, noU8_B _ _ _ _ _ _ _ _ _ _ _⟩
              have HB9 : Hid (Both W9 (fun k => w4.heap.size < k) w4.heap.size (mb + 1) mb (.pointer none) D 0 false) :=
                ⟨HD9.out.kp kl (Nat.le_refl _) (by intro k hk; have hkg : k = w4.heap.size := (by simpa using hk); rw [hkg]; exact HBa.out), ⟨ao9, n9, cap9, left9, hb, HT9.out.shy hsh kl⟩, HBa.out⟩
              have HKW9 : Hid (Kp [w4.heap.size, mb + 1, mb] W5.heap.size W5 W9) := HK9.out.trans (kl.mono (by simp) (by have := HK9.out.size; omega))
              clear kl hb hsh HX9 HG9 HT9 HD9
              go_wp2
              go_roundw
              case rel => exact ⟨j + 1, D, by omega, by go_num, by show D.room = 3000; rw [HDq.out.1, append_room]; exact HRM.out, by rw [← HMB.out]; exact HB9.out, by rw [← HMB.out]; exact HKW9.out⟩
              case measure => simp [intOf]; omega
        · have hj3 : j = 3 := by omega
          obtain ⟨D, hD⟩ : ∃ D, D = dk.openD.d := ⟨_, rfl⟩
          obtain ⟨mb, hmb⟩ : ∃ mb, mb = wc.heap.size := ⟨_, rfl⟩
          have hmbw : w.heap.size ≤ mb := by rw [hmb]; exact KC.out.size
          have hmb4 : mb + 1 < w4.heap.size := by rw [hmb]; exact hwcz
          have hw4 : w.heap.size ≤ w4.heap.size := KS.out.size
          have HKW : Hid (Kp [] w.heap.size w wr) := KS.out.trans ((K5.out.mono (by simp) hw4).trans (HKr.out.shed (B' := w.heap.size) (by simp; omega) (by omega)))
          rw [← hmb] at HBo b0
          have HDE := Lib.hid hD
          have HBz : Hid (Both wr.drew (fun k => w4.heap.size < k) w4.heap.size (mb + 1) mb (.pointer none) dk 0 false) := by
            obtain ⟨q1, ⟨x1, x2, x3, x4, q2, q3⟩, q4⟩ := HBo.out
            exact ⟨q1.kp_ge ((Kp.refl _ _ _).drew 1), ⟨x1, x2, x3, x4, q2, q3.kp ((Kp.refl _ _ _).drew 1)⟩, q4⟩
          clear hmb hD b1 b2 b3 b4 b5 b6 b7 b8 b0 u0 u1 u2 r0 r1 r2 HB6 HT6 HBo
          have HOP : Hid (Calls Try.prog 45 #[.pointer (some ⟨w4.heap.size, 0, none⟩)] wr.drew fun e w' => ∃ lp ao5 n5 cap5 left5 Q be, e = .returned (.bool true) ∧ IsDisk w' (fun k => w4.heap.size < k) (mb + 1) mb D ∧ w'.heap[w4.heap.size]? = some (.cells #[.pointer (some ⟨mb + 1, 0, none⟩), .pointer lp, .slice ao5 n5 cap5, .int .i64 (D.room : Int), .bool D.fuse.isSome, .int .i64 left5, .bool D.dead, .int .u64 (Q : Int), .bool be] 78 (0, 0)) ∧ IsT w' (.agg #[.slice ao5 n5 cap5, .int .i64 (D.room : Int), .bool D.fuse.isSome, .int .i64 left5, .bool D.dead]) D ∧ Kp [w4.heap.size, mb + 1, mb] wr.drew.heap.size wr.drew w') := by
            show Calls _ _ _ _ _
            refine (lbopen dk 0 false wr.drew HBz.out (fun k hk => by have : wr.heap.size ≤ k := hk; omega) (by have := HRM.out; omega)).mono ?_
            rintro e w5 ⟨rfl, ⟨lp, -, hB5⟩, k5⟩
            rw [← HDE.out] at hB5
            obtain ⟨q1, ⟨x1, x2, x3, x4, q2, q3⟩, q4⟩ := hB5
            exact ⟨lp, x1, x2, x3, x4, dk.openD.seq, _, rfl, q1, q2, q3, k5⟩
          go_upto_region 27 with fail
          have kz27 : Kp [] w.heap.size w wr.drew := HKW.out.drew 1
          refine start_ (n := 15) (S := fun w' => Kp [] w.heap.size w w') (ds := []) #[false, false, false, false, false, false, false, false, false, false, false, false, false, false, false] (by kernel_rfl) rfl rfl (kz27) (fun hHeld => ?_)
          refine pure_ (i := 0) (N := some 157) (v := ?_) (a' := ?_) #[true, false, false, false, false, false, false, false, false, false, false, false, false, false, false] rfl rfl (by kernel_rfl) (fun _ _ _ h => h) (Or.inl ⟨by rfl, ?_⟩) ?_ ?_
          rotate_left
          · intro w'
            go_simp
            with_reducible rfl
          rotate_left
          · simp only [Act.put, List.setIfInBounds_toArray, List.set_cons_zero, List.set_cons_succ, i64_w, i32_w]
            rfl
          refine one_ (i := 1) (N := some 158) #[true, true, false, false, false, false, false, false, false, false, false, false, false, false, false] rfl rfl (by kernel_rfl) (by decide) (fun K hK => ?_)
          refine goes_ Try.func45 (by kernel_rfl) rfl #[.pointer (some ⟨w4.heap.size, 0, none⟩)] (by rfl) rfl rfl (by simp only [List.map_toArray, List.map_cons, List.map_nil]; rfl) ?_
          with_reducible refine (HOP.out).mono ?_
          rintro e w5 ⟨lp, ao5, n5, cap5, left5, Q, be, rfl, hd5, hb5, ht5, k5⟩
          refine ⟨_, rfl, ?_⟩
          have HD5 := Lib.hid hd5
          have HT5 := Lib.hid ht5
          have KW5 := Lib.hid (hHeld.trans (k5.shed (B' := w.heap.size) (by simp; omega) (by show w.heap.size ≤ wr.heap.size; omega)))
          obtain ⟨b0, b1, b2, b3, b4, b5, b6, b7, b8⟩ := boxB hb5
          clear hd5 hb5 ht5 k5
          refine hK.out _ _ (KW5.out) (fun hHeld => ?_)
          clear hK K
          refine norm_ (a' := ?_) ?_ ?_
          rotate_left
          · show Act.put _ (some 158) _ = _
            simp only [Act.put, List.setIfInBounds_toArray, List.set_cons_zero, List.set_cons_succ, i64_w, i32_w]
            rfl
          refine pure_ (i := 2) (N := some 159) (v := ?_) (a' := ?_) #[true, true, true, false, false, false, false, false, false, false, false, false, false, false, false] rfl rfl (by kernel_rfl) (fun _ _ _ h => h) (Or.inl ⟨by rfl, ?_⟩) ?_ ?_
          rotate_left
          · intro w'
            go_simp
            with_reducible rfl
          rotate_left
          · simp only [Act.put, List.setIfInBounds_toArray, List.set_cons_zero, List.set_cons_succ, i64_w, i32_w]
            rfl
          refine pure_ (i := 3) (N := some 160) (v := ?_) (a' := ?_) #[true, true, true, true, false, false, false, false, false, false, false, false, false, false, false] rfl rfl (by kernel_rfl) (fun _ _ _ h => h) (Or.inl ⟨by rfl, ?_⟩) ?_ ?_
          rotate_left
          · intro w'
            go_simp
            with_reducible rfl
          rotate_left
          · simp only [Act.put, List.setIfInBounds_toArray, List.set_cons_zero, List.set_cons_succ, i64_w, i32_w]
            rfl
          refine pure_ (i := 4) (N := some 161) (v := ?_) (a' := ?_) #[true, true, true, true, true, false, false, false, false, false, false, false, false, false, false] rfl rfl (by kernel_rfl) (fun _ _ _ h => h) (Or.inl ⟨by rfl, ?_⟩) ?_ ?_
          rotate_left
          · intro w'
            go_simp
            with_reducible rfl
          rotate_left
          · simp only [Act.put, List.setIfInBounds_toArray, List.set_cons_zero, List.set_cons_succ, i64_w, i32_w]
            rfl
          refine pure_ (i := 5) (N := some 162) (v := ?_) (a' := ?_) #[true, true, true, true, true, true, false, false, false, false, false, false, false, false, false] rfl rfl (by kernel_rfl) (fun _ _ _ h => h) (Or.inl ⟨by rfl, ?_⟩) ?_ ?_
          rotate_left
          · intro w'
            go_simp
            with_reducible rfl
          rotate_left
          · simp only [Act.put, List.setIfInBounds_toArray, List.set_cons_zero, List.set_cons_succ, i64_w, i32_w]
            rfl
          refine pure_ (i := 7) (N := some 164) (v := ?_) (a' := ?_) #[true, true, true, true, true, true, false, true, false, false, false, false, false, false, false] rfl rfl (by kernel_rfl) (fun _ _ _ h => h) (Or.inl ⟨by rfl, ?_⟩) ?_ ?_
          rotate_left
          · intro w'
            go_simp
            with_reducible rfl
          rotate_left
          · simp only [Act.put, List.setIfInBounds_toArray, List.set_cons_zero, List.set_cons_succ, i64_w, i32_w]
            rfl
          refine pure_ (i := 8) (N := some 165) (v := ?_) (a' := ?_) #[true, true, true, true, true, true, false, true, true, false, false, false, false, false, false] rfl rfl (by kernel_rfl) (fun _ _ _ h => h) (Or.inl ⟨by rfl, ?_⟩) ?_ ?_
          rotate_left
          · intro w'
            go_simp
            with_reducible rfl
          rotate_left
          · simp only [Act.put, List.setIfInBounds_toArray, List.set_cons_zero, List.set_cons_succ, i64_w, i32_w]
            rfl
          refine pure_ (i := 9) (N := some 166) (v := ?_) (a' := ?_) #[true, true, true, true, true, true, false, true, true, true, false, false, false, false, false] rfl rfl (by kernel_rfl) (fun _ _ _ h => h) (Or.inl ⟨by rfl, ?_⟩) ?_ ?_
          rotate_left
          · intro w'
            go_simp
            with_reducible rfl
          rotate_left
          · simp only [Act.put, List.setIfInBounds_toArray, List.set_cons_zero, List.set_cons_succ, i64_w, i32_w]
            rfl
          refine pure_ (i := 10) (N := some 167) (v := ?_) (a' := ?_) #[true, true, true, true, true, true, false, true, true, true, true, false, false, false, false] rfl rfl (by kernel_rfl) (fun _ _ _ h => h) (Or.inl ⟨by rfl, ?_⟩) ?_ ?_
          rotate_left
          · intro w'
            go_simp
            with_reducible rfl
          rotate_left
          · simp only [Act.put, List.setIfInBounds_toArray, List.set_cons_zero, List.set_cons_succ, i64_w, i32_w]
            rfl
          refine join_ (σ := Unit) 3 #[true, true, true, true, true, true, true, true, true, true, true, true, false, false, false] (fun _ => [(163, .pointer (some ⟨mb + 1, 0, none⟩)), (168, .agg #[.slice ao5 n5 cap5, .int .i64 (D.room : Int), .bool D.fuse.isSome, .int .i64 left5, .bool D.dead])]) (fun _ w' => w' = w5) ?_ ?_
          rotate_left
          · intro hCont
            refine two_ (i := 6) (j := 11) (Ni := some 163) (Nj := some 168) #[true, true, true, true, true, true, true, true, true, true, true, false, false, false, false] #[true, true, true, true, true, true, false, true, true, true, true, true, false, false, false] rfl rfl rfl rfl (by kernel_rfl) (by decide) (by decide) (fun K hK => ?_) (fun K hK => ?_)
            · skip
              refine value_ (w1 := ?_) (v := ?_) (by rfl) rfl ?_ ?_
              rotate_left 2
              · go_simp
                constructor
                · rfl
                · rfl
              refine hK.out _ _ (hHeld) (fun hHeld => ?_)
              clear hK K
              refine norm_ (a' := ?_) ?_ ?_
              rotate_left
              · show Act.put _ (some 163) _ = _
                simp only [Act.put, List.setIfInBounds_toArray, List.set_cons_zero, List.set_cons_succ, i64_w, i32_w]
                rfl
              refine one_ (i := 11) (N := some 168) #[true, true, true, true, true, true, true, true, true, true, true, true, false, false, false] rfl rfl (by kernel_rfl) (by decide) (fun K hK => ?_)
              refine value_ (w1 := ?_) (v := ?_) (by rfl) rfl ?_ ?_
              rotate_left 2
              · go_simp
                constructor
                · rfl
                · rfl
              refine hK.out _ _ (hHeld) (fun hHeld => ?_)
              clear hK K
              refine norm_ (a' := ?_) ?_ ?_
              rotate_left
              · show Act.put _ (some 168) _ = _
                simp only [Act.put, List.setIfInBounds_toArray, List.set_cons_zero, List.set_cons_succ, i64_w, i32_w]
                rfl
              exact norm_ (by simp only [putAll, Act.put, List.setIfInBounds_toArray, List.set_cons_zero, List.set_cons_succ]) (hCont () _ rfl)
            · skip
              refine value_ (w1 := ?_) (v := ?_) (by rfl) rfl ?_ ?_
              rotate_left 2
              · go_simp
                constructor
                · rfl
                · rfl
              refine hK.out _ _ (hHeld) (fun hHeld => ?_)
              clear hK K
              refine norm_ (a' := ?_) ?_ ?_
              rotate_left
              · show Act.put _ (some 168) _ = _
                simp only [Act.put, List.setIfInBounds_toArray, List.set_cons_zero, List.set_cons_succ, i64_w, i32_w]
                rfl
              refine one_ (i := 6) (N := some 163) #[true, true, true, true, true, true, true, true, true, true, true, true, false, false, false] rfl rfl (by kernel_rfl) (by decide) (fun K hK => ?_)
              refine value_ (w1 := ?_) (v := ?_) (by rfl) rfl ?_ ?_
              rotate_left 2
              · go_simp
                constructor
                · rfl
                · rfl
              refine hK.out _ _ (hHeld) (fun hHeld => ?_)
              clear hK K
              refine norm_ (a' := ?_) ?_ ?_
              rotate_left
              · show Act.put _ (some 163) _ = _
                simp only [Act.put, List.setIfInBounds_toArray, List.set_cons_zero, List.set_cons_succ, i64_w, i32_w]
                rfl
              exact norm_ (by simp only [putAll, Act.put, List.setIfInBounds_toArray, List.set_cons_zero, List.set_cons_succ]) (hCont () _ rfl)
          rintro ⟨⟩ w5x hw5x
          have hHeld : Kp [] w.heap.size w w5x := by rw [hw5x]; exact KW5.out
          subst hw5x
          refine norm_ (a' := ?_) ?_ ?_
          rotate_left
          · simp only [putAll, Act.put, List.setIfInBounds_toArray, List.set_cons_zero, List.set_cons_succ]
            rfl
          refine one_ (i := 12) (N := some 169) #[true, true, true, true, true, true, true, true, true, true, true, true, true, false, false] rfl rfl (by kernel_rfl) (by decide) (fun K hK => ?_)
          refine goes_ Try.func46 (by kernel_rfl) rfl #[.pointer (some ⟨mb + 1, 0, none⟩), .agg #[.slice ao5 n5 cap5, .int .i64 (D.room : Int), .bool D.fuse.isSome, .int .i64 left5, .bool D.dead]] (by rfl) rfl rfl (by simp only [List.map_toArray, List.map_cons, List.map_nil]; rfl) ?_
          with_reducible refine (lalike D _ _ HD5.out HT5.out).mono ?_
          rintro e w6 ⟨rfl, k6⟩
          refine ⟨_, rfl, ?_⟩
          have KW6 := Lib.hid (KW5.out.trans (k6.mono (by simp) KW5.out.size))
          refine hK.out _ _ (KW6.out) (fun hHeld => ?_)
          clear hK K
          refine norm_ (a' := ?_) ?_ ?_
          rotate_left
          · show Act.put _ (some 169) _ = _
            simp only [Act.put, List.setIfInBounds_toArray, List.set_cons_zero, List.set_cons_succ, i64_w, i32_w]
            rfl
          refine pure_ (i := 13) (N := some 170) (v := ?_) (a' := ?_) #[true, true, true, true, true, true, true, true, true, true, true, true, true, true, false] rfl rfl (by kernel_rfl) (fun _ _ _ h => h) (Or.inl ⟨by rfl, ?_⟩) ?_ ?_
          rotate_left
          · intro w'
            go_simp
            with_reducible rfl
          rotate_left
          · simp only [Act.put, List.setIfInBounds_toArray, List.set_cons_zero, List.set_cons_succ, i64_w, i32_w]
            rfl
          refine pure_ (i := 14) (N := some 14) (v := ?_) (a' := ?_) #[true, true, true, true, true, true, true, true, true, true, true, true, true, true, true] rfl rfl (by kernel_rfl) (fun _ _ _ h => h) (Or.inl ⟨by rfl, ?_⟩) ?_ ?_
          rotate_left
          · intro w'
            go_simp
            with_reducible rfl
          rotate_left
          · simp only [Act.put, List.setIfInBounds_toArray, List.set_cons_zero, List.set_cons_succ, i64_w, i32_w]
            rfl
          refine done_ (by kernel_rfl) ?_

          go_wp2
          go_ret
          exact ⟨by simp, KW6.out⟩
theorem u64_natW {z : Int} (h : (Lit.int .u64 z).wf = true) : ∃ n : Nat, n < 18446744073709551616 ∧ z = (n : Int) := by
  have hr : 0 ≤ z ∧ z ≤ 18446744073709551615 := by simpa [Lit.wf, IntKind.min, IntKind.max, IntKind.bits, IntKind.signed] using h
  exact ⟨z.toNat, by omega, by omega⟩
theorem walFiles_row (a0 : Option Addr) (len0 cap0 : Nat) (z0 : List Int) (a1 : Option Addr) (len1 cap1 : Nat) (z1 : List Int) (a2 : Option Addr) (len2 cap2 : Nat) (z2 : List Int) (a3 a4 : Int) (a5 : Option Addr) (len5 cap5 : Nat) (rs5 : List (Value × List UInt8)) (a6 : Int) (w : World)
    (w0 : (a0 = none ∧ len0 = 0 ∧ cap0 = 0 ∧ z0 = []) ∨ ∃ x, a0 = some x ∧ len0 ≤ cap0 ∧ cap0 ≤ maxLen ∧ z0.length = cap0 ∧ (∀ i, i < z0.length → w.cell? (x.add i) = some (.int .u8 (z0.getD i 0))) ∧ ∀ n ∈ z0, (Lit.int .u8 n).wf = true) (y0 : len0 * 1 ≤ 140737488351232)
    (w1 : (a1 = none ∧ len1 = 0 ∧ cap1 = 0 ∧ z1 = []) ∨ ∃ x, a1 = some x ∧ len1 ≤ cap1 ∧ cap1 ≤ maxLen ∧ z1.length = cap1 ∧ (∀ i, i < z1.length → w.cell? (x.add i) = some (.int .u8 (z1.getD i 0))) ∧ ∀ n ∈ z1, (Lit.int .u8 n).wf = true) (y1 : len1 * 1 ≤ 140737488351232)
    (w2 : (a2 = none ∧ len2 = 0 ∧ cap2 = 0 ∧ z2 = []) ∨ ∃ x, a2 = some x ∧ len2 ≤ cap2 ∧ cap2 ≤ maxLen ∧ z2.length = cap2 ∧ (∀ i, i < z2.length → w.cell? (x.add i) = some (.int .u8 (z2.getD i 0))) ∧ ∀ n ∈ z2, (Lit.int .u8 n).wf = true) (y2 : len2 * 1 ≤ 140737488351232)
    (w3 : (Lit.int .u64 a3).wf = true) (w4 : (Lit.int .u64 a4).wf = true) (w5 : RowsV w a5 len5 cap5 rs5) (y5 : len5 * 24 ≤ 140737488351232) (w6 : (Lit.int .u8 a6).wf = true) :
    Calls Try.prog 12 #[.slice a0 len0 cap0, .slice a1 len1 cap1, .slice a2 len2 cap2, .int .u64 a3, .int .u64 a4, .slice a5 len5 cap5, .int .u8 a6] w fun e w' => e = .returned (.bool true) ∧ Below w.heap.size w w' := by
  obtain ⟨s0, hl0, hS0⟩ := row_bytesW w0
  obtain ⟨s1, hl1, hS1⟩ := row_bytesW w1
  obtain ⟨s2, hl2, hS2⟩ := row_bytesW w2
  obtain ⟨n3, hn3, rfl⟩ := u64_natW w3
  obtain ⟨n4, hn4, rfl⟩ := u64_natW w4
  obtain ⟨n6, hn6, rfl⟩ := u8_natW w6
  have hla : (rs5.map (·.2)).length = len5 := by simp [w5.1]
  cases hbig : filesBig len0 len1 len2 (rs5.map (·.2)) with
  | true => exact (files_big a0 a1 a2 len0 cap0 len1 cap1 len2 cap2 _ _ _ _ w _ (RdRows.of_in w5) w5.short (by omega) ⟨by omega, by omega, by omega⟩ hbig).mono fun e w' ⟨h1, h2⟩ => ⟨h1, h2.below⟩
  | false => exact (files_small a0 a1 a2 len0 cap0 len1 cap1 len2 cap2 n3 n4 _ n6 w s0 s1 s2 _ hS0 hS1 hS2 (RdRows.of_in w5) w5.short hn3 hn4 hn6 hbig).mono fun e w' ⟨h1, h2⟩ => ⟨h1, h2.below⟩
end Go.Proofs.Ytdabflkejhoghaa.Hand
