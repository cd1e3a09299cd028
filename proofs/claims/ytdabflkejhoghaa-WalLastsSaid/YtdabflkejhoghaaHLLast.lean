/- WalLasts: the walk. -/
import Derived.Below
import Derived.Deep.Draws
import Derived.Deep.AppendLies
import Derived.Maps.AppendAt
import Derived.OwnWalk
import Derived.Laws.BytesArg
import Derived.Laws.MakeOwn
import Derived.Laws.OwnMore
import Derived.Deep.OwnRows
import Derived.Tactics
import Derived.Lib.ConvBytes
import Derived.Laws.Slices
import Derived.WalkKit
import Derived.KernelRfl
import Derived.RowKit3
import Derived.Deep.LoopGhost
import Derived.Deep.QuietTactic
import Derived.BigQuiet
import Derived.WideLaws
import Derived.Deep.DeepCutAuto
import Derived.Deep.CutBlock
import Derived.Deep.RegionHeld3
import Derived.Laws.Rows
import Derived.Lib.AppendStr
import Derived.ArgAppend
import Derived.Laws.IdiomCopy
import Derived.OrdersHeld
import Derived.Laws.BitsLemmas
import Derived.RowKit
import Derived.Outline
import Derived.Maps.Own
import Derived.Maps.OwnOps
import Derived.Maps.OwnSet
import Derived.Maps.Views
import Derived.Maps.RangeWalk
import Derived.Maps.Ext
import Derived.RangeFuncOwn
import Derived.OneCell
import Derived.Deep.DeepMust
import Derived.Lib.Hide
import Derived.StillTailTactics
import Derived.Laws.AppendOwnNone
import Derived.WalkMore
import Derived.Lib.SlBytesConst
import Derived.WalkLawsBesides
import Derived.Laws.BitsAllLaws
import Derived.Test.YtdabflkejhoghaaHKd
import Derived.Test.YtdabflkejhoghaaHCu
import Derived.Test.YtdabflkejhoghaaWMore
import Derived.Test.YtdabflkejhoghaaWLast
namespace Go.Proofs.Ytdabflkejhoghaa.Hand
open Go Go.RowKit Go.Maps Go.WideMaps Go.Proofs.YtdabflkejhoghaaW.PrintWords Go.Proofs.YtdabflkejhoghaaW.PrintLast Go.Proofs.YtdabflkejhoghaaW.PrintMore
attribute [local go_sem] max2_int min2_int max_two min_two
set_option linter.unusedVariables false
set_option linter.unusedSimpArgs false
def Packs (mp U p k : Nat) : Prop := (U = 0 ∧ p = 0) ∨ (U = 400 ∧ mp < k)
def Going (L : List (List UInt8)) (mp U p k : Nat) (l : Lg) : Prop := (Live L U p k l ∧ Packs mp U p (k + 1)) ∨ (l.broken = true ∧ Rec L k l.d)
theorem app_step {L : List (List UInt8)} {mp U p k : Nat} {l : Lg} (hk : k < L.length) (hL : L.length ≤ 12) (ht : total L ≤ 300) (h : Going L mp U p k l) :
    ∃ l' q, l.append L[k] = (l', q) ∧ ((q = 0 ∧ ∃ U p, Packs mp U p (k + 1) ∧ Live L U p (k + 1) l') ∨ (q = 22 ∧ Rec L k l'.d)) := by
  rcases h with ⟨hl, hU⟩ | ⟨hb, hr⟩
  · rcases hl.append hk hL ht (by rcases hU with ⟨rfl, _⟩ | ⟨rfl, _⟩ <;> omega) with ⟨l', e1, h1⟩ | ⟨l', e1, h1⟩
    · exact ⟨l', 0, e1, .inl ⟨rfl, U, p, hU, h1⟩⟩
    · exact ⟨l', 22, e1, .inr ⟨rfl, h1⟩⟩
  · exact ⟨l, 22, append_broken hb, .inr ⟨rfl, hr⟩⟩
theorem pack_step {L : List (List UInt8)} {mp U p : Nat} {l : Lg} (hL : L.length ≤ 12) (ht : total L ≤ 300) (h : Live L U p mp l) (hP : Packs mp U p mp) :
    ∃ l' e U' p', l.pack (joinB (L.take mp)) = (l', e) ∧ Going L mp U' p' mp l' := by
  have h0 : U = 0 ∧ p = 0 := by rcases hP with h | ⟨_, h⟩; exact h; omega
  obtain ⟨rfl, rfl⟩ := h0
  obtain ⟨l', e, h1, h2⟩ := h.pack hL ht
  rcases h2 with h2 | h2
  · exact ⟨l', e, 400, mp, h1, .inl ⟨h2, .inr ⟨rfl, by omega⟩⟩⟩
  · exact ⟨l', e, 0, 0, h1, .inr h2⟩
theorem going_of {L : List (List UInt8)} {mp U p k : Nat} {l : Lg} (h : Live L U p k l) (hP : Packs mp U p k) : Going L mp U p k l :=
  .inl ⟨h, by rcases hP with h | ⟨h, h'⟩; exact .inl h; exact .inr ⟨h, by omega⟩⟩
set_option maxHeartbeats 1600000 in
set_option maxRecDepth 100000 in
theorem lasts_big (v0 : Value) (n1 n2 n3 : Nat) (w : World) (la : List (List UInt8)) (h0 : RdRows w v0 la) (hb0 : ∀ x ∈ la, x.length ≤ 140737488351232) (hl0 : la.length ≤ 140737488351232) (hbig : (decide (12 < la.length) || decide (300 < total la)) = true) :
    Calls Try.prog 14 #[v0, .int .u16 (n1 : Int), .int .u8 (n2 : Int), .int .u8 (n3 : Int)] w fun e w' => e = .returned (.bool true) ∧ Kp [] w.heap.size w w' := by
  have H0 := Lib.hid h0
  have HB0 := Lib.hid hb0
  obtain ⟨a0, cap0, rfl, -, -⟩ := h0
  obtain ⟨m0, hm0⟩ : ∃ m, m = la.length := ⟨_, rfl⟩
  rw [← hm0] at H0 hl0 hbig ⊢
  have HM0 := Lib.hid hm0
  clear hb0 hm0
  by_cases h12 : 12 < m0
  · have d1 : decide (12 < m0) = true := decide_eq_true h12
    have d2 : decide ((12 : Int) < (m0 : Int)) = true := decide_eq_true (by omega)
    clear hbig
    go_enter Try.func14, Try.ntmps14
    go_wp2_with fail
    refine (l14known _).mono ?_
    rintro e w1 ⟨rfl, k1⟩
    go_wp2_with fail
    go_ret
    exact ⟨rfl, k1⟩
  · have d1 : decide (12 < m0) = false := decide_eq_false h12
    have d2 : decide ((12 : Int) < (m0 : Int)) = false := decide_eq_false (by omega)
    rw [d1] at hbig
    have t0 : decide (300 < total la) = true := by simpa using hbig
    clear hbig
    go_enter Try.func14, Try.ntmps14
    go_wp2_with fail
    refine (lmany _ la w H0.out (by rw [← HM0.out]; omega) HB0.out).mono ?_
    rintro e w1 ⟨rfl, rfl⟩
    rw [t0]
    go_wp2_with fail
    refine (l14known _).mono ?_
    rintro e w1 ⟨rfl, k1⟩
    go_wp2_with fail
    go_ret
    exact ⟨rfl, k1⟩
set_option maxHeartbeats 4000000 in
set_option maxRecDepth 100000 in
theorem lasts_small (v0 : Value) (n1 n2 n3 : Nat) (w : World) (la : List (List UInt8)) (h0 : RdRows w v0 la) (hb0 : ∀ x ∈ la, x.length ≤ 140737488351232) (hn1 : n1 < 65536) (hn2 : n2 < 256) (hn3 : n3 < 256) (hsmall : (decide (12 < la.length) || decide (300 < total la)) = false) :
    Calls Try.prog 14 #[v0, .int .u16 (n1 : Int), .int .u8 (n2 : Int), .int .u8 (n3 : Int)] w fun e w' => e = .returned (.bool true) ∧ Kp [] w.heap.size w w' := by
  have H0 := Lib.hid h0
  have HB0 := Lib.hid hb0
  obtain ⟨a0, cap0, rfl, hcap, -⟩ := h0
  obtain ⟨m0, hm0⟩ : ∃ m, m = la.length := ⟨_, rfl⟩
  rw [← hm0] at hsmall H0 hcap ⊢
  simp only [Bool.or_eq_false_iff, decide_eq_false_iff_not] at hsmall
  obtain ⟨g1, g2⟩ := hsmall
  have HM0 := Lib.hid hm0
  have d1 : decide (12 < m0) = false := decide_eq_false g1
  have d2 : decide ((12 : Int) < (m0 : Int)) = false := decide_eq_false (by omega)
  have t0 : decide (300 < total la) = false := decide_eq_false g2
  have T0 : Hid (total la ≤ 300) := Lib.hid (by omega)
  have hm12 : m0 ≤ 12 := by omega
  obtain ⟨fu, hfu⟩ : ∃ fu, fu = n1 % 700 := ⟨_, rfl⟩
  have hfI : (n1 : Int) % 700 = (fu : Int) := by omega
  have hf700 : fu < 700 := by omega
  obtain ⟨mp, hmp⟩ : ∃ mp, mp = n3 % 16 := ⟨_, rfl⟩
  have hmI : (n3 : Int) % 16 = (mp : Int) := by omega
  have hm16 : mp < 16 := by omega
  have E0 := Lib.hid (open_new 20000)
  have HS0 := Lib.hid (Live.start la (fu : Int))
  clear hb0 hm0 g1 g2 hfu hmp
  go_enter Try.func14, Try.ntmps14
  go_wp2_with fail
  refine (lmany _ la w H0.out (by rw [← HM0.out]; omega) HB0.out).mono ?_
  rintro e w1 ⟨rfl, rfl⟩
  rw [t0]
  go_wp2_with fail
  refine (dNew (fun _ => False) 20000 _ (by omega) ⟨id, id⟩).mono ?_
  rintro e w1 ⟨rfl, h1, k1⟩
  have hz1 := h1.lt
  obtain ⟨A, hA⟩ : ∃ A : Nat → Prop, A = fun k => w1.heap.size ≤ k := ⟨_, rfl⟩
  have h1' : IsDisk w1 A (w.heap.size + 1) w.heap.size (Dk.new 20000) := h1.widen (fun _ h => h.elim) (by rw [hA]; exact ⟨by omega, by omega⟩)
  have HA := Lib.hid hA
  have HD1 := Lib.hid h1'
  have K1 := Lib.hid k1
  clear h1 h1' k1 hA d1 d2 t0
  go_wp2_with fail
  refine (wOpen w1 HD1.out (fun k hk => by rw [HA.out]; exact hk)).mono ?_
  rintro e w2 h2
  rw [E0.out] at h2
  obtain ⟨lb0, vx, vl, rfl, hl2, hx2, hr2, hlb, hlb2, k2⟩ := (h2.ok rfl).log HD1.out (by decide)
  obtain ⟨ax, cx, rfl, -, -, -⟩ := hx2
  obtain ⟨al, cl, rfl, -, -⟩ := hr2.shape
  obtain ⟨A2, hA2⟩ : ∃ A2 : Nat → Prop, A2 = fun k => A k ∧ k ≠ lb0 := ⟨_, rfl⟩
  have hAge : ∀ k, w2.heap.size ≤ k → A2 k := fun k hk => by rw [hA2, HA.out]; exact ⟨by show w1.heap.size ≤ k; have := k2.size; omega, by omega⟩
  rw [← hA2] at hl2
  have HL2 := Lib.hid hl2
  have K2 := Lib.hid (K1.out.trans (k2.shed (B' := w.heap.size) (by simp) (by omega)))
  have HAge := Lib.hid hAge
  clear h2 hl2 hr2 k2 hA2 hAge
  go_wp2_with fail
  refine (dFuse A2 _ _ (Dk.new 20000) (fu : Int) w2 HL2.out.2.1 (by omega)).mono ?_
  rintro e w3 ⟨rfl, h3, k3⟩
  have HL3 := Lib.hid (HL2.out.kpD (k3.mono (by simp) (Nat.le_refl _)) h3)
  have K3 := Lib.hid (K2.out.trans (k3.shed (B' := w.heap.size) (by simp) K2.out.size))
  have hz3 := k3.size
  have hge : w.heap.size ≤ lb0 := by omega
  clear h3 k3
  go_wp2_with fail
  go_loopw [14, 16, 17] (fun dn i s wr => ∃ (k : Nat) (l : Lg) (U p : Nat), k ≤ m0 ∧ dn = .int .i64 (k : Int) ∧ i = .int .i64 (k : Int) ∧ Hid (Packs mp U p k) ∧ Hid (Live la U p k l ∧ IsLog wr A2 lb0 (w.heap.size + 1) w.heap.size l ∧ Kp [] w.heap.size w wr ∧ w2.heap.size ≤ wr.heap.size)) (fun _ i _ _ => m0 - (intOf i).toNat)
  case atStart => exact ⟨0, _, 0, 0, by omega, rfl, rfl, Or.inl ⟨rfl, rfl⟩, HS0.out, HL3.out, K3.out, hz3⟩
  case round =>
    obtain ⟨k, l, U, p, hk, rfl, rfl, HP, HI⟩ := hrel
    obtain ⟨hF, hL, hKr, hzr⟩ := HI.out
    by_cases hlt : k < m0
    · have hkL : k < la.length := by rw [← HM0.out]; exact hlt
      by_cases hmk : mp = k
      · subst hmk
        have HPk := Lib.hid (pack_step (by rw [← HM0.out]; omega) T0.out hF HP.out)
        have HLr := Lib.hid hL
        have HKr := Lib.hid hKr
        have hkc : mp ≤ cap0 := by omega
        clear hF hL hKr HI
        go_wp2_with fail
        refine (l14join _ (la.take mp) wr ((H0.out.kp HKr.out).take mp (by omega)) (by simp; omega) (by have := total_take_le la mp; have := T0.out; omega)).mono ?_
        rintro e w4 ⟨rfl, rfl⟩
        obtain ⟨W4, c4, hcv, hbv4, hz4, k4⟩ := conv_back (joinB (la.take mp)) wr (by rw [joinB_length]; have := total_take_le la mp; have := T0.out; simp; omega)
        have HK4 := Lib.hid (HKr.out.trans (k4.mono (by simp) HKr.out.size))
        have HL4 := Lib.hid (HLr.out.kp k4)
        have HB4 := Lib.hid hbv4
        have hz24 : w2.heap.size ≤ W4.heap.size := by omega
        obtain ⟨jl, hjl⟩ : ∃ jl, jl = (joinB (la.take mp)).length := ⟨_, rfl⟩
        obtain ⟨js, hjs⟩ : ∃ js, js = bs (joinB (la.take mp)) := ⟨_, rfl⟩
        rw [← hjl] at hcv HB4
        rw [← hjs] at hcv ⊢
        clear hbv4 hz4 k4 hjl hjs
        go_wp2_with fail
        refine (wPack W4 HL4.out _ _ HB4.out (fun k hk => HAge.out k (by omega))).mono ?_
        rintro e w4 ⟨rfl, h4, k4'⟩
        obtain ⟨l4, e4, U4, p4, he4, hg4⟩ := HPk.out
        rw [he4] at h4 ⊢
        have HS := Lib.hid hg4
        have HLr := Lib.hid h4
        have HKr := Lib.hid (HK4.out.trans (k4'.shed (B' := w.heap.size) (by simp; omega) HK4.out.size))
        have hzr : w2.heap.size ≤ w4.heap.size := Nat.le_trans hz24 k4'.size
        clear he4 hg4 h4 k4' hcv HL4 HB4 HK4 HPk
        have HAp := Lib.hid (app_step hkL (by rw [← HM0.out]; omega) T0.out HS.out)
        obtain ⟨xo, so, sn, sc, hxo, hxb, hcell, hsn, hbv⟩ := RdRows.elem H0.out mp hkL
        subst hxo
        have hcr := (HKr.out.cell (p := xo.add mp) (by rw [add_block]; exact hxb) (by simp)).trans hcell
        have HBr := Lib.hid (hbv.kp HKr.out (by simp))
        clear hxb hcell hsn hbv
        go_wp2_with fail
        refine (wAppend w4 HLr.out _ _ HBr.out (fun mp hk => HAge.out mp (by omega))).mono ?_
        rintro e w3 ⟨rfl, h3, k3⟩
        obtain ⟨l', q', e1, hq'⟩ := HAp.out
        rw [e1] at h3 ⊢
        have HKx := Lib.hid (HKr.out.trans (k3.shed (B' := w.heap.size) (by simp; omega) HKr.out.size))
        have hzx : w2.heap.size ≤ w3.heap.size := Nat.le_trans hzr k3.size
        have HLx := Lib.hid h3
        clear h3 k3
        rcases hq' with ⟨rfl, U', p', hU', hL'⟩ | ⟨rfl, hR⟩
        · have HL' := Lib.hid hL'
          have HU' := Lib.hid hU'
          clear hL' hU' e1
          go_wp2_with fail
          go_roundw
          case rel => exact ⟨mp + 1, l', U', p', by omega, by go_num, by go_num, HU'.out, HL'.out, HLx.out, HKx.out, hzx⟩
          case measure => simp [intOf]; omega
        · have HRec := Lib.hid hR
          clear hR e1
          go_wp2_with fail
          obtain ⟨dz, pz, qz, hop, hpq, hkq, hqk, hqL⟩ := (HRec.out.crash (n2 : Int)).open rfl rfl (by rw [← HM0.out]; omega) T0.out
          have hqm : qz ≤ m0 := by rw [HM0.out]; exact hqL
          have hqc : qz ≤ cap0 := by omega
          have HOP := Lib.hid hop
          have HJC := Lib.hid (joinB_take la hpq)
          have htot : total ((la.take qz).drop pz) ≤ 300 := by
            have a1 := total_take_le la qz
            have a2 : total (la.take qz) = total ((la.take qz).take pz) + total ((la.take qz).drop pz) := by rw [← total_app, List.take_append_drop]
            have a3 := T0.out
            omega
          obtain ⟨rz, hrz⟩ : ∃ rz, rz = (la.take qz).drop pz := ⟨_, rfl⟩
          have hrl : rz.length ≤ 12 := by rw [hrz]; have := HM0.out; simp; omega
          rw [← hrz] at htot
          have HRZ := Lib.hid hrz
          have HRL := Lib.hid hrl
          have HTOT := Lib.hid htot
          clear hop hqL hpq hrz hrl htot
          refine (dCrash A2 _ _ l'.d (n2 : Int) w3 HLx.out.2.1 (by omega)).mono ?_
          rintro e w5 ⟨rfl, hd5, k5⟩
          have HD5 := Lib.hid hd5
          have K5 := Lib.hid (HKx.out.trans (k5.shed (B' := w.heap.size) (by simp) HKx.out.size))
          have hz5 : w2.heap.size ≤ w5.heap.size := Nat.le_trans hzx k5.size
          clear hd5 k5
          go_wp2_with fail
          refine (wOpen w5 HD5.out (fun mp hk => HAge.out mp (by omega))).mono ?_
          rintro e w6 h6
          rw [HOP.out] at h6
          obtain ⟨lb6, vx6, vl6, rfl, hl6, hx6, hr6, hlb6, hlb62, k6⟩ := (h6.ok rfl).log HD5.out (by omega)
          have CVX : Hid (∀ n, (convert 22 9 vx6).run Try.prog (w6.drewN n) = .ok (.string (bs (joinB (la.take pz)))) (w6.drewN n)) := Lib.hid (fun n => conv_bytes (hx6.kp ((Kp.refl [] _ _).drew n) (by simp)))
          obtain ⟨ax6, cx6, rfl, -, -, -⟩ := id hx6
          rw [← HRZ.out] at hr6
          have HRR := Lib.hid (RdRows.of_own hr6)
          obtain ⟨al6, cl6, rfl, -, -⟩ := hr6.shape
          have HL6 := Lib.hid hl6
          have K6 := Lib.hid (K5.out.trans (k6.shed (B' := w.heap.size) (by simp) K5.out.size))
          obtain ⟨zx, hzxx⟩ : ∃ zx, zx = bs (joinB (la.take pz)) := ⟨_, rfl⟩
          obtain ⟨zj, hzj⟩ : ∃ zj, zj = bs (joinB rz) := ⟨_, rfl⟩
          obtain ⟨zq, hzq⟩ : ∃ zq, zq = bs (joinB (la.take qz)) := ⟨_, rfl⟩
          have hcat : zx ++ zj = zq := by rw [hzxx, hzj, hzq, bs_app, HRZ.out, HJC.out]
          have hszx : zx.size ≤ 400 := by
            rw [hzxx]; show (joinB (la.take pz)).toArray.size ≤ 400
            rw [List.size_toArray, joinB_length]; have := total_take_le la pz; have := T0.out; have := HM0.out; simp; omega
          have hszj : zj.size ≤ 400 := by
            rw [hzj]; show (joinB rz).toArray.size ≤ 400
            rw [List.size_toArray, joinB_length]; have := HRL.out; have := HTOT.out; omega
          have HCAT := Lib.hid hcat
          have HZQ := Lib.hid hzq
          have HJN : Hid (∀ n, Calls Try.prog 49 #[.slice al6 rz.length cl6] (w6.drewN n) fun e w' => e = .returned (.string zj) ∧ w' = w6.drewN n) := Lib.hid (fun n => by rw [hzj]; exact (l14join _ rz _ (HRR.out.kp ((Kp.refl _ _ _).drew n)) HRL.out HTOT.out).mono fun _ _ h => ⟨h.1, h.2.symm⟩)
          have CVY : Hid (∀ n, (convert 22 9 (.slice ax6 (joinB (la.take pz)).length cx6)).run Try.prog (w6.drewN n) = .ok (.string zx) (w6.drewN n)) := by rw [hzxx]; exact CVX
          obtain ⟨lx, hlx⟩ : ∃ lx, lx = (joinB (la.take pz)).length := ⟨_, rfl⟩
          obtain ⟨rn, hrn⟩ : ∃ rn, rn = rz.length := ⟨_, rfl⟩
          rw [← hlx] at CVY ⊢
          rw [← hrn] at HJN ⊢
          have cvy := CVY.out
          clear h6 hl6 hr6 k6 hx6 CVX hzxx hzj hzq hcat hlx hrn CVY
          go_upto_region 22 with fail
          go_quiet ((go_at_call 49; exact Calls.quiet_of_same (HJN.out _)))
          rw [HCAT.out]
          clear cvy hszx hszj
          go_wp2_with fail
          refine (l14known _).mono ?_
          rintro e w7 ⟨rfl, k7⟩
          have HL7 := Lib.hid ((HL6.out.kp ((Kp.refl _ _ _).drew nq)).kp k7)
          have K7 := Lib.hid ((K6.out.drew nq).trans (k7.mono (by simp) K6.out.size))
          clear k7
          have g1 : decide ((mp : Int) ≤ (qz : Int)) = true := decide_eq_true (by omega)
          have g2 : decide (mp ≤ qz) = true := decide_eq_true (by omega)
          have g3 : ¬ ((m0 : Int) < (mp : Int) + 1) := by omega
          have g4 : decide ((qz : Int) ≤ (mp : Int) + 1) = true := decide_eq_true (by omega)
          have g5 : decide (qz ≤ mp + 1) = true := decide_eq_true (by omega)
          go_wp2_with fail
          refine (wSeq w7 HL7.out).mono ?_
          rintro e w8 ⟨rfl, rfl⟩
          go_wp2_with fail
          refine (wSeq w7 HL7.out).mono ?_
          rintro e w8 ⟨rfl, rfl⟩
          go_wp2_with fail
          refine (wSeq w7 HL7.out).mono ?_
          rintro e w8 ⟨rfl, rfl⟩
          go_wp2_with fail
          refine (l14join _ (la.take qz) w7 ((H0.out.kp K7.out).take qz hqm) (by have := HM0.out; simp; omega) (by have := total_take_le la qz; have := T0.out; omega)).mono ?_
          rintro e w8 ⟨rfl, rfl⟩
          rw [← HZQ.out]
          go_wp2_with fail
          go_ret
          exact ⟨rfl, K7.out⟩
      · have dmk : decide ((mp : Int) = (k : Int)) = false := decide_eq_false (by omega)
        have dmk2 : ((mp : Int) == (k : Int)) = false := by simp; omega
        have HS := Lib.hid (going_of hF HP.out)
        have HLr := Lib.hid hL
        have HKr := Lib.hid hKr
        clear hF hL hKr HI
        have HAp := Lib.hid (app_step hkL (by rw [← HM0.out]; omega) T0.out HS.out)
        obtain ⟨xo, so, sn, sc, hxo, hxb, hcell, hsn, hbv⟩ := RdRows.elem H0.out k hkL
        subst hxo
        have hcr := (HKr.out.cell (p := xo.add k) (by rw [add_block]; exact hxb) (by simp)).trans hcell
        have HBr := Lib.hid (hbv.kp HKr.out (by simp))
        clear hxb hcell hsn hbv
        go_wp2_with fail
        refine (wAppend wr HLr.out _ _ HBr.out (fun k hk => HAge.out k (by omega))).mono ?_
        rintro e w3 ⟨rfl, h3, k3⟩
        obtain ⟨l', q', e1, hq'⟩ := HAp.out
        rw [e1] at h3 ⊢
        have HKx := Lib.hid (HKr.out.trans (k3.shed (B' := w.heap.size) (by simp; omega) HKr.out.size))
        have hzx : w2.heap.size ≤ w3.heap.size := Nat.le_trans hzr k3.size
        have HLx := Lib.hid h3
        clear h3 k3
        rcases hq' with ⟨rfl, U', p', hU', hL'⟩ | ⟨rfl, hR⟩
        · have HL' := Lib.hid hL'
          have HU' := Lib.hid hU'
          clear hL' hU' e1
          go_wp2_with fail
          go_roundw
          case rel => exact ⟨k + 1, l', U', p', by omega, by go_num, by go_num, HU'.out, HL'.out, HLx.out, HKx.out, hzx⟩
          case measure => simp [intOf]; omega
        · have HRec := Lib.hid hR
          clear hR e1
          go_wp2_with fail
          obtain ⟨dz, pz, qz, hop, hpq, hkq, hqk, hqL⟩ := (HRec.out.crash (n2 : Int)).open rfl rfl (by rw [← HM0.out]; omega) T0.out
          have hqm : qz ≤ m0 := by rw [HM0.out]; exact hqL
          have hqc : qz ≤ cap0 := by omega
          have HOP := Lib.hid hop
          have HJC := Lib.hid (joinB_take la hpq)
          have htot : total ((la.take qz).drop pz) ≤ 300 := by
            have a1 := total_take_le la qz
            have a2 : total (la.take qz) = total ((la.take qz).take pz) + total ((la.take qz).drop pz) := by rw [← total_app, List.take_append_drop]
            have a3 := T0.out
            omega
          obtain ⟨rz, hrz⟩ : ∃ rz, rz = (la.take qz).drop pz := ⟨_, rfl⟩
          have hrl : rz.length ≤ 12 := by rw [hrz]; have := HM0.out; simp; omega
          rw [← hrz] at htot
          have HRZ := Lib.hid hrz
          have HRL := Lib.hid hrl
          have HTOT := Lib.hid htot
          clear hop hqL hpq hrz hrl htot
          refine (dCrash A2 _ _ l'.d (n2 : Int) w3 HLx.out.2.1 (by omega)).mono ?_
          rintro e w5 ⟨rfl, hd5, k5⟩
          have HD5 := Lib.hid hd5
          have K5 := Lib.hid (HKx.out.trans (k5.shed (B' := w.heap.size) (by simp) HKx.out.size))
          have hz5 : w2.heap.size ≤ w5.heap.size := Nat.le_trans hzx k5.size
          clear hd5 k5
          go_wp2_with fail
          refine (wOpen w5 HD5.out (fun k hk => HAge.out k (by omega))).mono ?_
          rintro e w6 h6
          rw [HOP.out] at h6
          obtain ⟨lb6, vx6, vl6, rfl, hl6, hx6, hr6, hlb6, hlb62, k6⟩ := (h6.ok rfl).log HD5.out (by omega)
          have CVX : Hid (∀ n, (convert 22 9 vx6).run Try.prog (w6.drewN n) = .ok (.string (bs (joinB (la.take pz)))) (w6.drewN n)) := Lib.hid (fun n => conv_bytes (hx6.kp ((Kp.refl [] _ _).drew n) (by simp)))
          obtain ⟨ax6, cx6, rfl, -, -, -⟩ := id hx6
          rw [← HRZ.out] at hr6
          have HRR := Lib.hid (RdRows.of_own hr6)
          obtain ⟨al6, cl6, rfl, -, -⟩ := hr6.shape
          have HL6 := Lib.hid hl6
          have K6 := Lib.hid (K5.out.trans (k6.shed (B' := w.heap.size) (by simp) K5.out.size))
          obtain ⟨zx, hzxx⟩ : ∃ zx, zx = bs (joinB (la.take pz)) := ⟨_, rfl⟩
          obtain ⟨zj, hzj⟩ : ∃ zj, zj = bs (joinB rz) := ⟨_, rfl⟩
          obtain ⟨zq, hzq⟩ : ∃ zq, zq = bs (joinB (la.take qz)) := ⟨_, rfl⟩
          have hcat : zx ++ zj = zq := by rw [hzxx, hzj, hzq, bs_app, HRZ.out, HJC.out]
          have hszx : zx.size ≤ 400 := by
            rw [hzxx]; show (joinB (la.take pz)).toArray.size ≤ 400
            rw [List.size_toArray, joinB_length]; have := total_take_le la pz; have := T0.out; have := HM0.out; simp; omega
          have hszj : zj.size ≤ 400 := by
            rw [hzj]; show (joinB rz).toArray.size ≤ 400
            rw [List.size_toArray, joinB_length]; have := HRL.out; have := HTOT.out; omega
          have HCAT := Lib.hid hcat
          have HZQ := Lib.hid hzq
          have HJN : Hid (∀ n, Calls Try.prog 49 #[.slice al6 rz.length cl6] (w6.drewN n) fun e w' => e = .returned (.string zj) ∧ w' = w6.drewN n) := Lib.hid (fun n => by rw [hzj]; exact (l14join _ rz _ (HRR.out.kp ((Kp.refl _ _ _).drew n)) HRL.out HTOT.out).mono fun _ _ h => ⟨h.1, h.2.symm⟩)
          have CVY : Hid (∀ n, (convert 22 9 (.slice ax6 (joinB (la.take pz)).length cx6)).run Try.prog (w6.drewN n) = .ok (.string zx) (w6.drewN n)) := by rw [hzxx]; exact CVX
          obtain ⟨lx, hlx⟩ : ∃ lx, lx = (joinB (la.take pz)).length := ⟨_, rfl⟩
          obtain ⟨rn, hrn⟩ : ∃ rn, rn = rz.length := ⟨_, rfl⟩
          rw [← hlx] at CVY ⊢
          rw [← hrn] at HJN ⊢
          have cvy := CVY.out
          clear h6 hl6 hr6 k6 hx6 CVX hzxx hzj hzq hcat hlx hrn CVY
          go_upto_region 22 with fail
          go_quiet ((go_at_call 49; exact Calls.quiet_of_same (HJN.out _)))
          rw [HCAT.out]
          clear cvy hszx hszj
          go_wp2_with fail
          refine (l14known _).mono ?_
          rintro e w7 ⟨rfl, k7⟩
          have HL7 := Lib.hid ((HL6.out.kp ((Kp.refl _ _ _).drew nq)).kp k7)
          have K7 := Lib.hid ((K6.out.drew nq).trans (k7.mono (by simp) K6.out.size))
          clear k7
          have g1 : decide ((k : Int) ≤ (qz : Int)) = true := decide_eq_true (by omega)
          have g2 : decide (k ≤ qz) = true := decide_eq_true (by omega)
          have g3 : ¬ ((m0 : Int) < (k : Int) + 1) := by omega
          have g4 : decide ((qz : Int) ≤ (k : Int) + 1) = true := decide_eq_true (by omega)
          have g5 : decide (qz ≤ k + 1) = true := decide_eq_true (by omega)
          go_wp2_with fail
          refine (wSeq w7 HL7.out).mono ?_
          rintro e w8 ⟨rfl, rfl⟩
          go_wp2_with fail
          refine (wSeq w7 HL7.out).mono ?_
          rintro e w8 ⟨rfl, rfl⟩
          go_wp2_with fail
          refine (wSeq w7 HL7.out).mono ?_
          rintro e w8 ⟨rfl, rfl⟩
          go_wp2_with fail
          refine (l14join _ (la.take qz) w7 ((H0.out.kp K7.out).take qz hqm) (by have := HM0.out; simp; omega) (by have := total_take_le la qz; have := T0.out; omega)).mono ?_
          rintro e w8 ⟨rfl, rfl⟩
          rw [← HZQ.out]
          go_wp2_with fail
          go_ret
          exact ⟨rfl, K7.out⟩
    · obtain rfl : k = m0 := by omega
      have HRec := Lib.hid (hF.recs (by rw [← HM0.out]; omega) T0.out (by rcases HP.out with ⟨rfl, _⟩ | ⟨rfl, _⟩ <;> omega))
      have HLx := Lib.hid hL
      have HKx := Lib.hid hKr
      have hzx := hzr
      clear hF hL hKr HI
      go_wp2_with fail
      obtain ⟨dz, pz, qz, hop, hpq, hkq, hqk, hqL⟩ := (HRec.out.crash (n2 : Int)).open rfl rfl (by rw [← HM0.out]; omega) T0.out
      have hqm : qz ≤ k := by rw [HM0.out]; exact hqL
      have hqc : qz ≤ cap0 := by omega
      have HOP := Lib.hid hop
      have HJC := Lib.hid (joinB_take la hpq)
      have htot : total ((la.take qz).drop pz) ≤ 300 := by
        have a1 := total_take_le la qz
        have a2 : total (la.take qz) = total ((la.take qz).take pz) + total ((la.take qz).drop pz) := by rw [← total_app, List.take_append_drop]
        have a3 := T0.out
        omega
      obtain ⟨rz, hrz⟩ : ∃ rz, rz = (la.take qz).drop pz := ⟨_, rfl⟩
      have hrl : rz.length ≤ 12 := by rw [hrz]; have := HM0.out; simp; omega
      rw [← hrz] at htot
      have HRZ := Lib.hid hrz
      have HRL := Lib.hid hrl
      have HTOT := Lib.hid htot
      clear hop hqL hpq hrz hrl htot
      refine (dCrash A2 _ _ l.d (n2 : Int) wr HLx.out.2.1 (by omega)).mono ?_
      rintro e w5 ⟨rfl, hd5, k5⟩
      have HD5 := Lib.hid hd5
      have K5 := Lib.hid (HKx.out.trans (k5.shed (B' := w.heap.size) (by simp) HKx.out.size))
      have hz5 : w2.heap.size ≤ w5.heap.size := Nat.le_trans hzx k5.size
      clear hd5 k5
      go_wp2_with fail
      refine (wOpen w5 HD5.out (fun k hk => HAge.out k (by omega))).mono ?_
      rintro e w6 h6
      rw [HOP.out] at h6
      obtain ⟨lb6, vx6, vl6, rfl, hl6, hx6, hr6, hlb6, hlb62, k6⟩ := (h6.ok rfl).log HD5.out (by omega)
      have CVX : Hid (∀ n, (convert 22 9 vx6).run Try.prog (w6.drewN n) = .ok (.string (bs (joinB (la.take pz)))) (w6.drewN n)) := Lib.hid (fun n => conv_bytes (hx6.kp ((Kp.refl [] _ _).drew n) (by simp)))
      obtain ⟨ax6, cx6, rfl, -, -, -⟩ := id hx6
      rw [← HRZ.out] at hr6
      have HRR := Lib.hid (RdRows.of_own hr6)
      obtain ⟨al6, cl6, rfl, -, -⟩ := hr6.shape
      have HL6 := Lib.hid hl6
      have K6 := Lib.hid (K5.out.trans (k6.shed (B' := w.heap.size) (by simp) K5.out.size))
      obtain ⟨zx, hzxx⟩ : ∃ zx, zx = bs (joinB (la.take pz)) := ⟨_, rfl⟩
      obtain ⟨zj, hzj⟩ : ∃ zj, zj = bs (joinB rz) := ⟨_, rfl⟩
      obtain ⟨zq, hzq⟩ : ∃ zq, zq = bs (joinB (la.take qz)) := ⟨_, rfl⟩
      have hcat : zx ++ zj = zq := by rw [hzxx, hzj, hzq, bs_app, HRZ.out, HJC.out]
      have hszx : zx.size ≤ 400 := by
        rw [hzxx]; show (joinB (la.take pz)).toArray.size ≤ 400
        rw [List.size_toArray, joinB_length]; have := total_take_le la pz; have := T0.out; have := HM0.out; simp; omega
      have hszj : zj.size ≤ 400 := by
        rw [hzj]; show (joinB rz).toArray.size ≤ 400
        rw [List.size_toArray, joinB_length]; have := HRL.out; have := HTOT.out; omega
      have HCAT := Lib.hid hcat
      have HZQ := Lib.hid hzq
      have HJN : Hid (∀ n, Calls Try.prog 49 #[.slice al6 rz.length cl6] (w6.drewN n) fun e w' => e = .returned (.string zj) ∧ w' = w6.drewN n) := Lib.hid (fun n => by rw [hzj]; exact (l14join _ rz _ (HRR.out.kp ((Kp.refl _ _ _).drew n)) HRL.out HTOT.out).mono fun _ _ h => ⟨h.1, h.2.symm⟩)
      have CVY : Hid (∀ n, (convert 22 9 (.slice ax6 (joinB (la.take pz)).length cx6)).run Try.prog (w6.drewN n) = .ok (.string zx) (w6.drewN n)) := by rw [hzxx]; exact CVX
      obtain ⟨lx, hlx⟩ : ∃ lx, lx = (joinB (la.take pz)).length := ⟨_, rfl⟩
      obtain ⟨rn, hrn⟩ : ∃ rn, rn = rz.length := ⟨_, rfl⟩
      rw [← hlx] at CVY ⊢
      rw [← hrn] at HJN ⊢
      have cvy := CVY.out
      clear h6 hl6 hr6 k6 hx6 CVX hzxx hzj hzq hcat hlx hrn CVY
      go_upto_region 22 with fail
      go_quiet ((go_at_call 49; exact Calls.quiet_of_same (HJN.out _)))
      rw [HCAT.out]
      clear cvy hszx hszj
      go_wp2_with fail
      refine (l14known _).mono ?_
      rintro e w7 ⟨rfl, k7⟩
      have HL7 := Lib.hid ((HL6.out.kp ((Kp.refl _ _ _).drew nq)).kp k7)
      have K7 := Lib.hid ((K6.out.drew nq).trans (k7.mono (by simp) K6.out.size))
      clear k7
      have g1 : decide ((k : Int) ≤ (qz : Int)) = true := decide_eq_true (by omega)
      have g2 : decide (k ≤ qz) = true := decide_eq_true (by omega)
      have g3 : (k : Int) < (k : Int) + 1 := by omega
      have g4 : decide ((qz : Int) ≤ (k : Int)) = true := decide_eq_true (by omega)
      have g5 : decide (qz ≤ k) = true := decide_eq_true (by omega)
      go_wp2_with fail
      refine (wSeq w7 HL7.out).mono ?_
      rintro e w8 ⟨rfl, rfl⟩
      go_wp2_with fail
      refine (wSeq w7 HL7.out).mono ?_
      rintro e w8 ⟨rfl, rfl⟩
      go_wp2_with fail
      refine (wSeq w7 HL7.out).mono ?_
      rintro e w8 ⟨rfl, rfl⟩
      go_wp2_with fail
      refine (l14join _ (la.take qz) w7 ((H0.out.kp K7.out).take qz hqm) (by have := HM0.out; simp; omega) (by have := total_take_le la qz; have := T0.out; omega)).mono ?_
      rintro e w8 ⟨rfl, rfl⟩
      rw [← HZQ.out]
      go_wp2_with fail
      go_ret
      exact ⟨rfl, K7.out⟩
theorem walLasts_row (a0 : Option Addr) (len0 cap0 : Nat) (rs0 : List (Value × List UInt8)) (a1 a2 a3 : Int) (w : World) (w0 : RowsV w a0 len0 cap0 rs0) (y0 : len0 * 24 ≤ 140737488351232)
    (w1 : (Lit.int .u16 a1).wf = true) (w2 : (Lit.int .u8 a2).wf = true) (w3 : (Lit.int .u8 a3).wf = true) :
    Calls Try.prog 14 #[.slice a0 len0 cap0, .int .u16 a1, .int .u8 a2, .int .u8 a3] w fun e w' => e = .returned (.bool true) ∧ Below w.heap.size w w' := by
  obtain ⟨n1, hn1, rfl⟩ := u16_natW w1
  obtain ⟨n2, hn2, rfl⟩ := u8_natW w2
  obtain ⟨n3, hn3, rfl⟩ := u8_natW w3
  have hla : (rs0.map (·.2)).length = len0 := by simp [w0.1]
  cases hbig : (decide (12 < (rs0.map (·.2)).length) || decide (300 < total (rs0.map (·.2)))) with
  | true => exact (lasts_big _ n1 n2 n3 w _ (RdRows.of_in w0) w0.short (by omega) hbig).mono fun e w' ⟨h1, h2⟩ => ⟨h1, h2.below⟩
  | false => exact (lasts_small _ n1 n2 n3 w _ (RdRows.of_in w0) w0.short hn1 hn2 hn3 hbig).mono fun e w' ⟨h1, h2⟩ => ⟨h1, h2.below⟩
end Go.Proofs.Ytdabflkejhoghaa.Hand
