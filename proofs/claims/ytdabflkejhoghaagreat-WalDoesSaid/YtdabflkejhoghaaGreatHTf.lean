/- The log's law: a deed, on both. -/
import Derived.Below
import Derived.Deep.Draws
import Derived.Deep.AppendLies
import Derived.Maps.AppendAt
import Derived.OwnWalk
import Derived.Laws.BytesArg
import Derived.Laws.MakeOwn
import Derived.Laws.OwnMore
import Derived.Deep.OwnRows
import Derived.Tactics
import Derived.Lib.ConvBytes
import Derived.Laws.Slices
import Derived.WalkKit
import Derived.KernelRfl
import Derived.RowKit3
import Derived.Deep.LoopGhost
import Derived.Deep.QuietTactic
import Derived.BigQuiet
import Derived.WideLaws
import Derived.Deep.DeepCutAuto
import Derived.Deep.CutBlock
import Derived.Deep.RegionHeld3
import Derived.Laws.Rows
import Derived.Lib.AppendStr
import Derived.ArgAppend
import Derived.Laws.IdiomCopy
import Derived.OrdersHeld
import Derived.Laws.BitsLemmas
import Derived.RowKit
import Derived.Outline
import Derived.Maps.Own
import Derived.Maps.OwnOps
import Derived.Maps.OwnSet
import Derived.Maps.Views
import Derived.Maps.RangeWalk
import Derived.Maps.Ext
import Derived.RangeFuncOwn
import Derived.OneCell
import Derived.Deep.DeepMust
import Derived.Lib.Hide
import Derived.StillTailTactics
import Derived.Laws.AppendOwnNone
import Derived.WalkMore
import Derived.Lib.SlBytesConst
import Derived.WalkLawsBesides
import Derived.Laws.BitsAllLaws
import Derived.Test.YtdabflkejhoghaaGreatHWa
import Derived.Test.YtdabflkejhoghaaGreatWLast
import Derived.Test.YtdabflkejhoghaaGreatHTp
import Derived.Test.YtdabflkejhoghaaGreatHTb
import Derived.Test.YtdabflkejhoghaaGreatHTc
import Derived.Test.YtdabflkejhoghaaGreatHTe
import Derived.Test.YtdabflkejhoghaaGreatHCu
namespace Go.Proofs.YtdabflkejhoghaaGreat.Hand
open Go Go.RowKit Go.Maps Go.WideMaps Go.Proofs.YtdabflkejhoghaaGreat.HW Go.Proofs.YtdabflkejhoghaaGreatW.PrintLast
set_option linter.unusedVariables false
set_option linter.unusedSimpArgs false
theorem Both.kp0 {w w' : World} {A : Nat → Prop} {gb p mb : Nat} {lp : Value} {d : Dk} {q : Nat} {br : Bool} (h : Both w A gb p mb lp d q br) (k : Kp [] w.heap.size w w') : Both w' A gb p mb lp d q br := by
  obtain ⟨h1, ⟨ao, n, cap, left, h2, h3⟩, h4⟩ := h
  exact ⟨h1.kp_ge k, ⟨ao, n, cap, left, (k.block gb (Array.getElem?_eq_some_iff.1 h2).1 (by simp)).trans h2, h3.kp k⟩, h4⟩
theorem Both.lt {w : World} {A : Nat → Prop} {gb p mb : Nat} {lp : Value} {d : Dk} {q : Nat} {br : Bool} (h : Both w A gb p mb lp d q br) : p < w.heap.size ∧ mb < w.heap.size ∧ gb < w.heap.size := by
  obtain ⟨h1, ⟨ao, n, cap, left, h2, h3⟩, h4⟩ := h
  exact ⟨h1.lt.1, h1.lt.2, (Array.getElem?_eq_some_iff.1 h2).1⟩
/-- what both.do leaves -/
def DoP (w : World) (G gb p mb : Nat) (e : Ending) (w' : World) : Prop := e = .returned (.bool true) ∧ (∃ A' lp' l', Bl w' G A' gb p mb lp' l') ∧ Kp [] G w w'
theorem i64_and63 (n : Int) : bits .and .i64 n 63 = n % 64 := by
  have h63 : (BitVec.ofInt 64 63).toNat = 2 ^ 6 - 1 := by decide
  have key : (BitVec.ofInt 64 n &&& BitVec.ofInt 64 63).toNat = (n % ((2 ^ 64 : Nat) : Int)).toNat % 2 ^ 6 := by
    rw [BitVec.toNat_and, BitVec.toNat_ofInt, h63, Nat.and_two_pow_sub_one_eq_mod]
  show IntKind.i64.wrap ((BitVec.ofInt 64 n &&& BitVec.ofInt 64 63).toNat : Nat) = n % 64
  rw [key, IntKind.wrap_i64]
  omega
theorem Bl.again {w w' : World} {G : Nat} {A : Nat → Prop} {gb p mb : Nat} {lp : Option Addr} {d D : Dk} {q : Nat} {br : Bool} (hlog : ∀ a, lp = some a → ∃ lb, a = ⟨lb, 0, none⟩ ∧ IsLog w A lb p mb ⟨d, q, br⟩ ∧ lb ≠ gb ∧ G ≤ lb) (hk : Kp [gb, p, mb] w.heap.size w w') (hB : Both w' A gb p mb (.pointer lp) D q br) (hA : ∀ k, w.heap.size + 1 ≤ k → A k) (hs : w.heap.size + 1 ≤ w'.heap.size) (hlow : G ≤ gb ∧ G ≤ p ∧ G ≤ mb) (hr : D.room ≤ 3000) : Bl w' G A gb p mb lp ⟨D, q, br⟩ := by
  refine ⟨hB, ?_, fun k h => hA k (by omega), hlow, hr⟩
  intro a ha
  obtain ⟨lb, e, ⟨h1, h2, h3, h4, h5, h6⟩, h7, h8⟩ := hlog a ha
  exact ⟨lb, e, ⟨(hk.block lb (Array.getElem?_eq_some_iff.1 h1).1 (by simp [h3, h4, h7])).trans h1, hB.disk, h3, h4, h5, h6⟩, h7, h8⟩
theorem IsLog.kpG {w w' : World} {A : Nat → Prop} {lb p mb gb : Nat} {l : Lg} (h : IsLog w A lb p mb l) (hk : Kp [gb] w.heap.size w w') (hg : ¬ A gb ∧ gb ≠ p ∧ gb ≠ mb) (hl : lb ≠ gb) : IsLog w' A lb p mb l := by
  obtain ⟨h1, h2, h3, h4, h5, h6⟩ := h
  exact ⟨(hk.block lb (Array.getElem?_eq_some_iff.1 h1).1 (by simp [hl])).trans h1, h2.kp hk (Nat.le_refl _) (by intro k hk; have hkg : k = gb := (by simpa using hk); rw [hkg]; exact hg), h3, h4, h5, h6⟩
set_option maxHeartbeats 8000000 in
set_option maxRecDepth 100000 in
/-- a deed, on both -/
theorem lbdo {G : Nat} {A : Nat → Prop} {gb p mb : Nat} {lp : Option Addr} (l : Lg) (r : De) (v : Value) (w : World) (h : Bl w G A gb p mb lp l) (hG : G ≤ w.heap.size) (hv : BytesV w (fun k => k < G) v r.b) (hk : r.k < 256) (hn : -9223372036854775808 ≤ r.n ∧ r.n ≤ 9223372036854775807) (hlp : 2 < r.k % 16 → lp ≠ none) :
    Calls Tryz.prog 9 #[.pointer (some ⟨gb, 0, none⟩), .agg #[.int .u8 (r.k : Int), .int .i64 r.n, v]] w (DoP w G gb p mb) := by
  obtain ⟨d, q, br⟩ := l
  obtain ⟨hbo, hlog, hfree, hlow, hroom⟩ := h
  simp only at hbo hroom
  obtain ⟨bo, bc, rfl, -, -, -⟩ := id hv
  obtain ⟨bl, hbl⟩ : ∃ bl, bl = r.b.length := ⟨_, rfl⟩
  rw [← hbl] at hv ⊢
  obtain ⟨k16, hk16⟩ : ∃ k16, k16 = r.k % 16 := ⟨_, rfl⟩
  have hkI : (r.k : Int) % 16 = (k16 : Int) := by omega
  rw [← hk16] at hlp
  have kd := kp1 w (.cells #[.int .u8 (r.k : Int), .int .i64 r.n, .slice bo bl bc] 41)
  have HFR : Hid (∀ k, w.heap.size + 1 ≤ k → A k) := fun k hk => hfree k (by omega)
  have HBo := Lib.hid (hbo.kp0 kd)
  have HLO := Lib.hid hlog
  have HV := Lib.hid (hv.kp kd (by simp))
  have HKD := Lib.hid kd
  have hlt := hbo.lt
  have HLOW := Lib.hid hlow
  have hd1 := World.alloc_heap_new w (.cells #[.int .u8 (r.k : Int), .int .i64 r.n, .slice bo bl bc] 41)
  have HAP := Lib.hid hbo.apart
  have h6 : k16 = 0 ∨ k16 = 1 ∨ k16 = 2 ∨ k16 = 3 ∨ k16 = 4 ∨ 5 ≤ k16 := by omega
  clear hbo hlog hfree hlow hv hbl hk16 kd
  go_enter Tryz.func9, Tryz.ntmps9
  go_upto_region 1 with fail
  obtain ⟨W1, hW1⟩ : ∃ W1, W1 = w.alloc (.cells #[.int .u8 (r.k : Int), .int .i64 r.n, .slice bo bl bc] 41) := ⟨_, rfl⟩
  have hs1 : W1.heap.size = w.heap.size + 1 := by rw [hW1]; simp
  rw [← hW1] at HBo HV HKD hd1 ⊢
  have HS1 := Lib.hid hs1
  have HDE := Lib.hid hd1
  obtain ⟨c0, c1, c2⟩ := boxF hd1
  obtain ⟨ao, n, cap, left, hb1, ht1⟩ := HBo.out.box
  have HBX := Lib.hid hb1
  have HT1 := Lib.hid ht1
  have HD1 := Lib.hid HBo.out.disk
  obtain ⟨b0, b1, b2, b3, b4, b5, b6, b7, b8⟩ := boxB hb1
  have hgl : gb < W1.heap.size := by omega
  have hdl : w.heap.size < W1.heap.size := by omega
  clear hW1 hd1 hb1 ht1 hs1
  rcases h6 with rfl | rfl | rfl | rfl | rfl | h5
  · go_upto_region 3 with fail
    obtain ⟨wd, hwd⟩ : ∃ wd, wd = W1.drew := ⟨_, rfl⟩
    have hdr : Kp [] W1.heap.size W1 wd := by rw [hwd]; exact (Kp.refl _ _ _).drew 1
    have v0 := (hdr.cell (p := ⟨gb, 0, none⟩) hgl (by simp)).trans b0
    have v1 := (hdr.cell (p := ⟨w.heap.size, 1, none⟩) hdl (by simp)).trans c1
    have HDd := Lib.hid (HD1.out.kp_ge hdr)
    have HTd := Lib.hid (HT1.out.kp hdr)
    have HXd := Lib.hid ((hdr.block gb hgl (by simp)).trans HBX.out)
    have HCd := Lib.hid ((hdr.block w.heap.size hdl (by simp)).trans HDE.out)
    have HKd : Hid (Kp [] G w wd) := (HKD.out.mono (by simp) hG).trans (hdr.mono (by simp) (by omega))
    have hsd : W1.heap.size ≤ wd.heap.size := hdr.size
    clear hdr
    refine wp_region_still_tail 6 (by kernel_rfl) (by kernel_rfl) ?_
    simp only [List.take_succ_cons, List.take_zero, List.drop_succ_cons, List.drop_zero]
    change wpStill _ _ (World.drew _) (fun a' => wpList _ _ _ _ a' (World.drew _)) _ _
    rw [← hwd]
    clear hwd b0 b1 b2 b3 b4 b5 b6 b7 b8 c0 c1 c2
    repeat still_step
    refine wpStill_nil ?_
    go_wp2_with fail
    refine (dCrash _ _ _ d r.n wd HDd.out hn).mono ?_
    rintro e w2 ⟨rfl, h2, k2⟩
    obtain ⟨D, hD⟩ : ∃ D, D = d.crash r.n := ⟨_, rfl⟩
    rw [← hD] at h2
    have hroomD : D.room ≤ 3000 := by rw [hD]; exact hroom
    have HDe := Lib.hid hD
    have HD2 := Lib.hid h2
    have hx2 := (k2.block gb (by omega) (by have := HAP.out; simp; omega)).trans HXd.out
    have hc2 := (k2.block w.heap.size (by omega) (by have := HAP.out; simp; omega)).trans HCd.out
    have HX2 := Lib.hid hx2
    have HT2 := Lib.hid (HTd.out.shy HDd.out.shy k2)
    have HK2 : Hid (Kp [] G w w2) := HKd.out.trans (k2.shed (B' := G) (by have := HLOW.out; simp; omega) (by omega))
    have hs2 : wd.heap.size ≤ w2.heap.size := k2.size
    obtain ⟨b0, b1, b2, b3, b4, b5, b6, b7, b8⟩ := boxB hx2
    obtain ⟨c0, c1, c2⟩ := boxF hc2
    clear h2 k2 hx2 hc2 hD v0 v1 HDd HTd HXd HCd HKd
    have hgl2 : gb < w2.heap.size := by omega
    have hdl2 : w.heap.size < w2.heap.size := by omega
    go_upto_region 4 with fail
    have hkz : Kp [] w2.heap.size w2 w2.drew := (Kp.refl _ _ _).drew 1
    refine start_ (n := 13) (S := fun w' => w'.cell? ⟨gb, 2, none⟩ = some (.slice ao n cap) ∧ w'.cell? ⟨gb, 3, none⟩ = some (.int .i64 (d.room : Int)) ∧ w'.cell? ⟨gb, 4, none⟩ = some (.bool d.fuse.isSome) ∧ w'.cell? ⟨gb, 5, none⟩ = some (.int .i64 left) ∧ w'.cell? ⟨gb, 6, none⟩ = some (.bool d.dead) ∧ w'.cell? ⟨w.heap.size, 1, none⟩ = some (.int .i64 r.n) ∧ Kp [] w2.heap.size w2 w') (ds := [12]) #[false, false, false, false, false, false, false, false, false, false, false, false, false] (by kernel_rfl) rfl rfl ⟨(by exact b2), (by exact b3), (by exact b4), (by exact b5), (by exact b6), (by exact c1), hkz⟩ (fun hHeld => ?_)
    refine pure_ (i := 0) (N := some 22) (v := ?_) (a' := ?_) #[true, false, false, false, false, false, false, false, false, false, false, false, false] rfl rfl (by kernel_rfl) (fun _ _ _ h => h) (Or.inl ⟨by rfl, ?_⟩) ?_ ?_
    rotate_left
    · intro w'
      go_simp
      with_reducible rfl
    rotate_left
    · simp only [Act.put, List.setIfInBounds_toArray, List.set_cons_zero, List.set_cons_succ, i64_w, i32_w]
      rfl
    refine pure_ (i := 1) (N := some 23) (v := ?_) (a' := ?_) #[true, true, false, false, false, false, false, false, false, false, false, false, false] rfl rfl (by kernel_rfl) (fun _ _ _ h => h) (Or.inl ⟨by rfl, ?_⟩) ?_ ?_
    rotate_left
    · intro w'
      go_simp
      with_reducible rfl
    rotate_left
    · simp only [Act.put, List.setIfInBounds_toArray, List.set_cons_zero, List.set_cons_succ, i64_w, i32_w]
      rfl
    refine pure_ (i := 2) (N := some 24) (v := ?_) (a' := ?_) #[true, true, true, false, false, false, false, false, false, false, false, false, false] rfl rfl (by kernel_rfl) (fun _ _ _ h => h) (Or.inl ⟨by rfl, ?_⟩) ?_ ?_
    rotate_left
    · intro w'
      go_simp
      with_reducible rfl
    rotate_left
    · simp only [Act.put, List.setIfInBounds_toArray, List.set_cons_zero, List.set_cons_succ, i64_w, i32_w]
      rfl
    refine pure_ (i := 3) (N := some 25) (v := ?_) (a' := ?_) #[true, true, true, true, false, false, false, false, false, false, false, false, false] rfl rfl (by kernel_rfl) (fun _ _ _ h => h) (Or.inl ⟨by rfl, ?_⟩) ?_ ?_
    rotate_left
    · intro w'
      go_simp
      with_reducible rfl
    rotate_left
    · simp only [Act.put, List.setIfInBounds_toArray, List.set_cons_zero, List.set_cons_succ, i64_w, i32_w]
      rfl
    refine pure_ (i := 4) (N := some 26) (v := ?_) (a' := ?_) #[true, true, true, true, true, false, false, false, false, false, false, false, false] rfl rfl (by kernel_rfl) (fun _ _ _ h => h) (Or.inl ⟨by rfl, ?_⟩) ?_ ?_
    rotate_left
    · intro w'
      go_simp
      with_reducible rfl
    rotate_left
    · simp only [Act.put, List.setIfInBounds_toArray, List.set_cons_zero, List.set_cons_succ, i64_w, i32_w]
      rfl
    refine pure_ (i := 6) (N := some 28) (v := ?_) (a' := ?_) #[true, true, true, true, true, false, true, false, false, false, false, false, false] rfl rfl (by kernel_rfl) (fun _ _ _ h => h) (Or.inl ⟨by rfl, ?_⟩) ?_ ?_
    rotate_left
    · intro w'
      go_simp
      with_reducible rfl
    rotate_left
    · simp only [Act.put, List.setIfInBounds_toArray, List.set_cons_zero, List.set_cons_succ, i64_w, i32_w]
      rfl
    refine take_ (i := 5) (N := some 27) (v := ?_) (a' := ?_) #[true, true, true, true, true, true, true, false, false, false, false, false, false] rfl rfl (by kernel_rfl) (fun _ _ _ h => h) (Or.inl ⟨by rfl, ?_⟩) hHeld ?_ ?_
    rotate_left
    · rintro w' ⟨s0, s1, s2, s3, s4, s5, s6⟩
      go_simp
      with_reducible rfl
    rotate_left
    · simp only [Act.put, List.setIfInBounds_toArray, List.set_cons_zero, List.set_cons_succ, i64_w, i32_w]
      rfl
    refine take_ (i := 7) (N := some 29) (v := ?_) (a' := ?_) #[true, true, true, true, true, true, true, true, false, false, false, false, false] rfl rfl (by kernel_rfl) (fun _ _ _ h => h) (Or.inl ⟨by rfl, ?_⟩) hHeld ?_ ?_
    rotate_left
    · rintro w' ⟨s0, s1, s2, s3, s4, s5, s6⟩
      go_simp
      with_reducible rfl
    rotate_left
    · simp only [Act.put, List.setIfInBounds_toArray, List.set_cons_zero, List.set_cons_succ, i64_w, i32_w]
      rfl
    refine one_ (i := 8) (N := some 30) #[true, true, true, true, true, true, true, true, true, false, false, false, false] rfl rfl (by kernel_rfl) (by decide) (fun K hK => ?_)
    refine goes_ Tryz.func20 (by kernel_rfl) rfl #[.agg #[.slice ao n cap, .int .i64 (d.room : Int), .bool d.fuse.isSome, .int .i64 left, .bool d.dead], .int .i64 r.n] (by rfl) rfl rfl (by simp only [List.map_toArray, List.map_cons, List.map_nil]; rfl) ?_
    with_reducible refine (rCrash d _ r.n _ (HT2.out.kp hHeld.2.2.2.2.2.2) hn).mono ?_
    rintro e w4 ⟨v4, rfl, h4, k4⟩
    refine ⟨_, rfl, ?_⟩
    obtain ⟨ao4, n4, cap4, left4, rfl, -⟩ := h4.form
    rw [← HDe.out] at h4 ⊢
    have HT4 := Lib.hid h4
    have K4 := Lib.hid (hHeld.2.2.2.2.2.2.trans (k4.mono (by simp) hHeld.2.2.2.2.2.2.size))
    have HX4 := Lib.hid ((K4.out.block gb hgl2 (by simp)).trans HX2.out)
    have f2 : w4.frozen? ⟨gb, 2, none⟩ = false := Lib.frozen_of_heap HX4.out 2
    have f3 : w4.frozen? ⟨gb, 3, none⟩ = false := Lib.frozen_of_heap HX4.out 3
    have f4 : w4.frozen? ⟨gb, 4, none⟩ = false := Lib.frozen_of_heap HX4.out 4
    have f5 : w4.frozen? ⟨gb, 5, none⟩ = false := Lib.frozen_of_heap HX4.out 5
    have f6 : w4.frozen? ⟨gb, 6, none⟩ = false := Lib.frozen_of_heap HX4.out 6
    clear h4 k4
    refine hK.out _ _ ⟨((K4.out.cell (p := ⟨gb, 2, none⟩) hgl2 (by simp)).trans b2), ((K4.out.cell (p := ⟨gb, 3, none⟩) hgl2 (by simp)).trans b3), ((K4.out.cell (p := ⟨gb, 4, none⟩) hgl2 (by simp)).trans b4), ((K4.out.cell (p := ⟨gb, 5, none⟩) hgl2 (by simp)).trans b5), ((K4.out.cell (p := ⟨gb, 6, none⟩) hgl2 (by simp)).trans b6), ((K4.out.cell (p := ⟨w.heap.size, 1, none⟩) hdl2 (by simp)).trans c1), K4.out⟩ (fun hHeld => ?_)
    clear hK K
    refine norm_ (a' := ?_) ?_ ?_
    rotate_left
    · show Act.put _ (some 30) _ = _
      simp only [Act.put, List.setIfInBounds_toArray, List.set_cons_zero, List.set_cons_succ, i64_w, i32_w]
      rfl
    refine pure_ (i := 9) (N := some 31) (v := ?_) (a' := ?_) #[true, true, true, true, true, true, true, true, true, true, false, false, false] rfl rfl (by kernel_rfl) (fun _ _ _ h => h) (Or.inl ⟨by rfl, ?_⟩) ?_ ?_
    rotate_left
    · intro w'
      go_simp
      with_reducible rfl
    rotate_left
    · simp only [Act.put, List.setIfInBounds_toArray, List.set_cons_zero, List.set_cons_succ, i64_w, i32_w]
      rfl
    refine pure_ (i := 10) (N := some 32) (v := ?_) (a' := ?_) #[true, true, true, true, true, true, true, true, true, true, true, false, false] rfl rfl (by kernel_rfl) (fun _ _ _ h => h) (Or.inl ⟨by rfl, ?_⟩) ?_ ?_
    rotate_left
    · intro w'
      go_simp
      with_reducible rfl
    rotate_left
    · simp only [Act.put, List.setIfInBounds_toArray, List.set_cons_zero, List.set_cons_succ, i64_w, i32_w]
      rfl
    refine pure_ (i := 11) (N := some 33) (v := ?_) (a' := ?_) #[true, true, true, true, true, true, true, true, true, true, true, true, false] rfl rfl (by kernel_rfl) (fun _ _ _ h => h) (Or.inl ⟨by rfl, ?_⟩) ?_ ?_
    rotate_left
    · intro w'
      go_simp
      with_reducible rfl
    rotate_left
    · simp only [Act.put, List.setIfInBounds_toArray, List.set_cons_zero, List.set_cons_succ, i64_w, i32_w]
      rfl
    refine last_ (i := 12) (N := none) #[true, true, true, true, true, true, true, true, true, true, true, true, true] rfl rfl (by kernel_rfl) (by decide) (fun K hK => ?_)
    refine skip_ (w1 := ?_) (by rfl) rfl ?_ ?_
    rotate_left
    · go_simp
      rfl
    refine hK.out _ _ ?_
    clear hK K
    refine done_ (by kernel_rfl) ?_

    have kl := setD_kp w4 gb (.slice ao4 n4 cap4) (.int .i64 (D.room : Int)) (.bool D.fuse.isSome) (.int .i64 left4) (.bool D.dead)
    have hb := setD HX4.out (.slice ao4 n4 cap4) (.int .i64 (D.room : Int)) (.bool D.fuse.isSome) (.int .i64 left4) (.bool D.dead)
    obtain ⟨W9, hW9⟩ : ∃ W, W = (((((w4.setCell ⟨gb, 2, none⟩ (.slice ao4 n4 cap4)).setCell ⟨gb, 3, none⟩ (.int .i64 (D.room : Int))).setCell ⟨gb, 4, none⟩ (.bool D.fuse.isSome)).setCell ⟨gb, 5, none⟩ (.int .i64 left4)).setCell ⟨gb, 6, none⟩ (.bool D.dead)) := ⟨_, rfl⟩
    rw [← hW9] at kl hb ⊢
    have HBB : Hid (Both W9 A gb p mb (.pointer lp) D q br) := ⟨(HD2.out.kp_ge K4.out).kp kl (Nat.le_refl _) (by intro k hk; have hkg : k = gb := (by simpa using hk); rw [hkg]; exact HAP.out), ⟨ao4, n4, cap4, left4, hb, HT4.out.shy (shyB HX4.out) kl⟩, HAP.out⟩
    have HKW : Hid (Kp [] G w W9) := (HK2.out.trans (K4.out.mono (by simp) (by omega))).trans (kl.shed (B' := G) (by have := HLOW.out; simp; omega) (by have := K4.out.size; omega))
    have hs9 : w2.heap.size ≤ W9.heap.size := Nat.le_trans K4.out.size kl.size
    clear kl hb hW9 f2 f3 f4 f5 f6
    go_wp2_with fail
    refine (lbopen2 D q br W9 HBB.out (fun k hk => HFR.out k (by have := HS1.out; omega)) (by omega)).mono ?_
    rintro e w9 ⟨rfl, ⟨lp9, he9, hB9, hL9⟩, k9⟩
    have HF9 : Hid (∃ A' l', Bl w9 G A' gb p mb lp9 l') := Bl.opened (w := W9) (fun k hk => HFR.out k (by have := HS1.out; omega)) k9.size HLOW.out (by omega) (by omega) he9 hB9 hL9
    have HK9 : Hid (Kp [] G w w9) := HKW.out.trans (k9.shed (B' := G) (by have := HLOW.out; simp; omega) (by omega))
    clear he9 hB9 hL9 k9
    go_wp2_with fail
    go_ret
    obtain ⟨A9, l9, h9⟩ := HF9.out
    exact ⟨rfl, ⟨A9, lp9, l9, h9⟩, HK9.out⟩
  · by_cases h64 : 64 ≤ r.k
    · have d64 : decide ((64 : Int) ≤ (r.k : Int)) = true := decide_eq_true (by omega)
      go_upto_region 10 with fail
      obtain ⟨nn, hnn⟩ : ∃ nn, nn = bits BinOp.and IntKind.i64 r.n 63 := ⟨_, rfl⟩
      have HNN : Hid (-9223372036854775808 ≤ nn ∧ nn ≤ 9223372036854775807) := by show _ ∧ _; rw [hnn, i64_and63]; omega
      rw [← hnn]
      clear hnn
      go_wp2_with fail
      refine (dFuse A p mb d nn W1 HD1.out HNN.out).mono ?_
      rintro e w2 ⟨rfl, h2, k2⟩
      obtain ⟨D, hD⟩ : ∃ D, D = d.setFuse nn := ⟨_, rfl⟩
      rw [← hD] at h2
      have hroomD : D.room ≤ 3000 := by rw [hD]; unfold Dk.setFuse; split <;> exact hroom
      have HDe := Lib.hid hD
      have HD2 := Lib.hid h2
      have hx2 := (k2.block gb (by omega) (by have := HAP.out; simp; omega)).trans HBX.out
      have HX2 := Lib.hid hx2
      have k2b : Kp [p, mb] W1.heap.size W1 w2 := k2.mono (by simp) (Nat.le_refl _)
      have HT2 := Lib.hid (HT1.out.shy HD1.out.shy k2b)
      have HKL2 : Hid (Kp [gb, p, mb] w.heap.size w w2) := (HKD.out.mono (by simp) (Nat.le_refl _)).trans (k2.mono (by simp) (by omega))
      have hs2 : W1.heap.size ≤ w2.heap.size := k2.size
      clear b0 b1 b2 b3 b4 b5 b6 b7 b8 c0 c1 c2
      obtain ⟨b0, b1, b2, b3, b4, b5, b6, b7, b8⟩ := boxB hx2
      clear h2 k2 k2b hx2 hD
      go_wp2_with fail
      refine (rFuse d _ nn w2 HT2.out HNN.out).mono ?_
      rintro e w4 ⟨v4, rfl, h4, k4⟩
      obtain ⟨ao4, n4, cap4, left4, rfl, -⟩ := h4.form
      rw [← HDe.out] at h4 ⊢
      have HT4 := Lib.hid h4
      have K4 := Lib.hid k4
      have hx4 := (k4.block gb (by omega) (by simp)).trans HX2.out
      have HX4 := Lib.hid hx4
      clear b0 b1 b2 b3 b4 b5 b6 b7 b8
      obtain ⟨b0, b1, b2, b3, b4, b5, b6, b7, b8⟩ := boxB hx4
      have f2 : w4.frozen? ⟨gb, 2, none⟩ = false := Lib.frozen_of_heap hx4 2
      have f3 : w4.frozen? ⟨gb, 3, none⟩ = false := Lib.frozen_of_heap hx4 3
      have f4 : w4.frozen? ⟨gb, 4, none⟩ = false := Lib.frozen_of_heap hx4 4
      have f5 : w4.frozen? ⟨gb, 5, none⟩ = false := Lib.frozen_of_heap hx4 5
      have f6 : w4.frozen? ⟨gb, 6, none⟩ = false := Lib.frozen_of_heap hx4 6
      have hs4 : w2.heap.size ≤ w4.heap.size := k4.size
      clear h4 k4 hx4
      go_upto_region 12 with fail
      have kl := setD_kp w4 gb (.slice ao4 n4 cap4) (.int .i64 (D.room : Int)) (.bool D.fuse.isSome) (.int .i64 left4) (.bool D.dead)
      have hb := setD HX4.out (.slice ao4 n4 cap4) (.int .i64 (D.room : Int)) (.bool D.fuse.isSome) (.int .i64 left4) (.bool D.dead)
      obtain ⟨W9, hW9⟩ : ∃ W, W = (((((w4.setCell ⟨gb, 2, none⟩ (.slice ao4 n4 cap4)).setCell ⟨gb, 3, none⟩ (.int .i64 (D.room : Int))).setCell ⟨gb, 4, none⟩ (.bool D.fuse.isSome)).setCell ⟨gb, 5, none⟩ (.int .i64 left4)).setCell ⟨gb, 6, none⟩ (.bool D.dead)) := ⟨_, rfl⟩
      rw [← hW9] at kl hb ⊢
      have HBB : Hid (Both W9 A gb p mb (.pointer lp) D q br) := ⟨(HD2.out.kp_ge K4.out).kp kl (Nat.le_refl _) (by intro k hk; have hkg : k = gb := (by simpa using hk); rw [hkg]; exact HAP.out), ⟨ao4, n4, cap4, left4, hb, HT4.out.shy (shyB HX4.out) kl⟩, HAP.out⟩
      have HKL9 : Hid (Kp [gb, p, mb] w.heap.size w W9) := (HKL2.out.trans (K4.out.mono (by simp) (by omega))).trans (kl.mono (by simp) (by omega))
      have hs9 : w4.heap.size ≤ W9.heap.size := kl.size
      clear kl hb hW9 b0 b1 b2 b3 b4 b5 b6 b7 b8 f2 f3 f4 f5 f6
      go_wp2
      go_ret
      exact ⟨rfl, ⟨A, lp, ⟨D, q, br⟩, Bl.again HLO.out HKL9.out HBB.out HFR.out (by omega) HLOW.out hroomD⟩, HKL9.out.shed (B' := G) (by have := HLOW.out; simp; omega) hG⟩
    · have d64 : decide ((64 : Int) ≤ (r.k : Int)) = false := decide_eq_false (by omega)
      go_upto_region 10 with fail
      go_wp2_with fail
      refine (dFuse A p mb d r.n W1 HD1.out hn).mono ?_
      rintro e w2 ⟨rfl, h2, k2⟩
      obtain ⟨D, hD⟩ : ∃ D, D = d.setFuse r.n := ⟨_, rfl⟩
      rw [← hD] at h2
      have hroomD : D.room ≤ 3000 := by rw [hD]; unfold Dk.setFuse; split <;> exact hroom
      have HDe := Lib.hid hD
      have HD2 := Lib.hid h2
      have hx2 := (k2.block gb (by omega) (by have := HAP.out; simp; omega)).trans HBX.out
      have HX2 := Lib.hid hx2
      have k2b : Kp [p, mb] W1.heap.size W1 w2 := k2.mono (by simp) (Nat.le_refl _)
      have HT2 := Lib.hid (HT1.out.shy HD1.out.shy k2b)
      have HKL2 : Hid (Kp [gb, p, mb] w.heap.size w w2) := (HKD.out.mono (by simp) (Nat.le_refl _)).trans (k2.mono (by simp) (by omega))
      have hs2 : W1.heap.size ≤ w2.heap.size := k2.size
      clear b0 b1 b2 b3 b4 b5 b6 b7 b8 c0 c1 c2
      obtain ⟨b0, b1, b2, b3, b4, b5, b6, b7, b8⟩ := boxB hx2
      clear h2 k2 k2b hx2 hD
      go_wp2_with fail
      refine (rFuse d _ r.n w2 HT2.out hn).mono ?_
      rintro e w4 ⟨v4, rfl, h4, k4⟩
      obtain ⟨ao4, n4, cap4, left4, rfl, -⟩ := h4.form
      rw [← HDe.out] at h4 ⊢
      have HT4 := Lib.hid h4
      have K4 := Lib.hid k4
      have hx4 := (k4.block gb (by omega) (by simp)).trans HX2.out
      have HX4 := Lib.hid hx4
      clear b0 b1 b2 b3 b4 b5 b6 b7 b8
      obtain ⟨b0, b1, b2, b3, b4, b5, b6, b7, b8⟩ := boxB hx4
      have f2 : w4.frozen? ⟨gb, 2, none⟩ = false := Lib.frozen_of_heap hx4 2
      have f3 : w4.frozen? ⟨gb, 3, none⟩ = false := Lib.frozen_of_heap hx4 3
      have f4 : w4.frozen? ⟨gb, 4, none⟩ = false := Lib.frozen_of_heap hx4 4
      have f5 : w4.frozen? ⟨gb, 5, none⟩ = false := Lib.frozen_of_heap hx4 5
      have f6 : w4.frozen? ⟨gb, 6, none⟩ = false := Lib.frozen_of_heap hx4 6
      have hs4 : w2.heap.size ≤ w4.heap.size := k4.size
      clear h4 k4 hx4
      go_upto_region 12 with fail
      have kl := setD_kp w4 gb (.slice ao4 n4 cap4) (.int .i64 (D.room : Int)) (.bool D.fuse.isSome) (.int .i64 left4) (.bool D.dead)
      have hb := setD HX4.out (.slice ao4 n4 cap4) (.int .i64 (D.room : Int)) (.bool D.fuse.isSome) (.int .i64 left4) (.bool D.dead)
      obtain ⟨W9, hW9⟩ : ∃ W, W = (((((w4.setCell ⟨gb, 2, none⟩ (.slice ao4 n4 cap4)).setCell ⟨gb, 3, none⟩ (.int .i64 (D.room : Int))).setCell ⟨gb, 4, none⟩ (.bool D.fuse.isSome)).setCell ⟨gb, 5, none⟩ (.int .i64 left4)).setCell ⟨gb, 6, none⟩ (.bool D.dead)) := ⟨_, rfl⟩
      rw [← hW9] at kl hb ⊢
      have HBB : Hid (Both W9 A gb p mb (.pointer lp) D q br) := ⟨(HD2.out.kp_ge K4.out).kp kl (Nat.le_refl _) (by intro k hk; have hkg : k = gb := (by simpa using hk); rw [hkg]; exact HAP.out), ⟨ao4, n4, cap4, left4, hb, HT4.out.shy (shyB HX4.out) kl⟩, HAP.out⟩
      have HKL9 : Hid (Kp [gb, p, mb] w.heap.size w W9) := (HKL2.out.trans (K4.out.mono (by simp) (by omega))).trans (kl.mono (by simp) (by omega))
      have hs9 : w4.heap.size ≤ W9.heap.size := kl.size
      clear kl hb hW9 b0 b1 b2 b3 b4 b5 b6 b7 b8 f2 f3 f4 f5 f6
      go_wp2
      go_ret
      exact ⟨rfl, ⟨A, lp, ⟨D, q, br⟩, Bl.again HLO.out HKL9.out HBB.out HFR.out (by omega) HLOW.out hroomD⟩, HKL9.out.shed (B' := G) (by have := HLOW.out; simp; omega) hG⟩
  · clear b0 b1 b2 b3 b4 b5 b6 b7 b8 c1 c2
    go_wp2_with fail
    refine (lbopen2 d q br W1 HBo.out (fun k hk => HFR.out k (by have := HS1.out; omega)) (by omega)).mono ?_
    rintro e w9 ⟨rfl, ⟨lp9, he9, hB9, hL9⟩, k9⟩
    have HF9 : Hid (∃ A' l', Bl w9 G A' gb p mb lp9 l') := Bl.opened (w := W1) (fun k hk => HFR.out k (by have := HS1.out; omega)) k9.size HLOW.out (by omega) (by omega) he9 hB9 hL9
    have HK9 : Hid (Kp [] G w w9) := (HKD.out.mono (by simp) hG).trans (k9.shed (B' := G) (by have := HLOW.out; simp; omega) (by omega))
    clear he9 hB9 hL9 k9
    go_wp2_with fail
    go_ret
    obtain ⟨A9, l9, h9⟩ := HF9.out
    exact ⟨rfl, ⟨A9, lp9, l9, h9⟩, HK9.out⟩
  · skip
    cases lp with
    | none => exact absurd rfl (hlp (by omega))
    | some a =>
      obtain ⟨lb, rfl, hlg, hlb1, hlb2⟩ := HLO.out a rfl
      have HLG1 := Lib.hid (hlg.kp HKD.out)
      have hlbl : lb < W1.heap.size := HLG1.out.lt
      have hlbp : lb ≠ p ∧ lb ≠ mb := ⟨hlg.2.2.1, hlg.2.2.2.1⟩
      have hq64 : q < 18446744073709551616 := hlg.2.2.2.2.2
      obtain ⟨⟨D, Q, R⟩, hL⟩ : ∃ L, L = ((Lg.mk d q br).pack r.b).1 := ⟨_, rfl⟩
      obtain ⟨E, hE⟩ : ∃ E, E = ((Lg.mk d q br).pack r.b).2 := ⟨_, rfl⟩
      have HLE : Hid ((⟨D, Q, R⟩ : Lg) = ((Lg.mk d q br).pack r.b).1 ∧ E = ((Lg.mk d q br).pack r.b).2) := ⟨hL, hE⟩
      have hE22 : E ≤ 22 := by rw [hE]; exact lg_pack_err _ _
      have hroomD : D.room ≤ 3000 := by have h := lg_pack_room ⟨d, q, br⟩ r.b; rw [← hL] at h; simp only at h; omega
      have HRP : Hid (∀ W, Kp [] W1.heap.size W1 W → Calls Tryz.prog 23 #[.agg #[.slice ao n cap, .int .i64 (d.room : Int), .bool d.fuse.isSome, .int .i64 left, .bool d.dead, .int .u64 (q : Int), .bool br], .slice bo bl bc] W fun e w' => ∃ ao9 n9 cap9 left9, e = .returned (.tuple #[.agg #[.slice ao9 n9 cap9, .int .i64 (D.room : Int), .bool D.fuse.isSome, .int .i64 left9, .bool D.dead, .int .u64 (Q : Int), .bool R], .int .i64 (E : Int)]) ∧ IsT w' (.agg #[.slice ao9 n9 cap9, .int .i64 (D.room : Int), .bool D.fuse.isSome, .int .i64 left9, .bool D.dead]) D ∧ Kp [] W.heap.size W w') := fun W hK => by
        refine (r14Pack ⟨d, q, br⟩ _ r.b _ W ⟨ao, n, cap, left, rfl, HT1.out.kp hK, hq64⟩ (HV.out.kp hK (by simp))).mono ?_
        rintro e w9 ⟨v9, rfl, h9, k9⟩
        rw [← HLE.out.1, ← HLE.out.2] at *
        obtain ⟨ao9, n9, cap9, left9, rfl, h9, -⟩ := h9
        exact ⟨ao9, n9, cap9, left9, rfl, h9, k9⟩
      clear hL hE hlg
      go_upto_region 17 with fail
      go_cut [6, 7] (fun pg e1 wx => ∃ (g : Nat), pg = .pointer (some ⟨g, 0, none⟩) ∧ e1 = .int .i64 (E : Int) ∧ Hid (∃ ao9 n9 cap9 left9, wx.heap[g]? = some (.cells #[.slice ao9 n9 cap9, .int .i64 (D.room : Int), .bool D.fuse.isSome, .int .i64 left9, .bool D.dead, .int .u64 (Q : Int), .bool R] 35 (0, 0)) ∧ IsT wx (.agg #[.slice ao9 n9 cap9, .int .i64 (D.room : Int), .bool D.fuse.isSome, .int .i64 left9, .bool D.dead]) D ∧ Kp [] W1.heap.size W1 wx))
      case first =>
        have hkz : Kp [] W1.heap.size W1 W1.drew := (Kp.refl _ _ _).drew 1
        refine start_ (n := 13) (S := fun w' => w'.cell? ⟨gb, 2, none⟩ = some (.slice ao n cap) ∧ w'.cell? ⟨gb, 3, none⟩ = some (.int .i64 (d.room : Int)) ∧ w'.cell? ⟨gb, 4, none⟩ = some (.bool d.fuse.isSome) ∧ w'.cell? ⟨gb, 5, none⟩ = some (.int .i64 left) ∧ w'.cell? ⟨gb, 6, none⟩ = some (.bool d.dead) ∧ w'.cell? ⟨gb, 7, none⟩ = some (.int .u64 (q : Int)) ∧ w'.cell? ⟨gb, 8, none⟩ = some (.bool br) ∧ w'.cell? ⟨w.heap.size, 2, none⟩ = some (.slice bo bl bc) ∧ Kp [] W1.heap.size W1 w') (ds := [11]) #[false, false, false, false, false, false, false, false, false, false, false, false, false] (by kernel_rfl) rfl rfl ⟨(by exact b2), (by exact b3), (by exact b4), (by exact b5), (by exact b6), (by exact b7), (by exact b8), (by exact c2), hkz⟩ (fun hHeld => ?_)
        refine pure_ (i := 0) (N := some 71) (v := ?_) (a' := ?_) #[true, false, false, false, false, false, false, false, false, false, false, false, false] rfl rfl (by kernel_rfl) (fun _ _ _ h => h) (Or.inl ⟨by rfl, ?_⟩) ?_ ?_
        rotate_left
        · intro w'
          go_simp
          with_reducible rfl
        rotate_left
        · simp only [Act.put, List.setIfInBounds_toArray, List.set_cons_zero, List.set_cons_succ, i64_w, i32_w]
          rfl
        refine pure_ (i := 1) (N := some 72) (v := ?_) (a' := ?_) #[true, true, false, false, false, false, false, false, false, false, false, false, false] rfl rfl (by kernel_rfl) (fun _ _ _ h => h) (Or.inl ⟨by rfl, ?_⟩) ?_ ?_
        rotate_left
        · intro w'
          go_simp
          with_reducible rfl
        rotate_left
        · simp only [Act.put, List.setIfInBounds_toArray, List.set_cons_zero, List.set_cons_succ, i64_w, i32_w]
          rfl
        refine pure_ (i := 2) (N := some 73) (v := ?_) (a' := ?_) #[true, true, true, false, false, false, false, false, false, false, false, false, false] rfl rfl (by kernel_rfl) (fun _ _ _ h => h) (Or.inl ⟨by rfl, ?_⟩) ?_ ?_
        rotate_left
        · intro w'
          go_simp
          with_reducible rfl
        rotate_left
        · simp only [Act.put, List.setIfInBounds_toArray, List.set_cons_zero, List.set_cons_succ, i64_w, i32_w]
          rfl
        refine pure_ (i := 4) (N := some 75) (v := ?_) (a' := ?_) #[true, true, true, false, true, false, false, false, false, false, false, false, false] rfl rfl (by kernel_rfl) (fun _ _ _ h => h) (Or.inl ⟨by rfl, ?_⟩) ?_ ?_
        rotate_left
        · intro w'
          go_simp
          with_reducible rfl
        rotate_left
        · simp only [Act.put, List.setIfInBounds_toArray, List.set_cons_zero, List.set_cons_succ, i64_w, i32_w]
          rfl
        refine take_ (i := 3) (N := some 74) (v := ?_) (a' := ?_) #[true, true, true, true, true, false, false, false, false, false, false, false, false] rfl rfl (by kernel_rfl) (fun _ _ _ h => h) (Or.inl ⟨by rfl, ?_⟩) hHeld ?_ ?_
        rotate_left
        · rintro w' ⟨s0, s1, s2, s3, s4, s5, s6, s7, s8⟩
          go_simp
          with_reducible rfl
        rotate_left
        · simp only [Act.put, List.setIfInBounds_toArray, List.set_cons_zero, List.set_cons_succ, i64_w, i32_w]
          rfl
        refine take_ (i := 5) (N := some 76) (v := ?_) (a' := ?_) #[true, true, true, true, true, true, false, false, false, false, false, false, false] rfl rfl (by kernel_rfl) (fun _ _ _ h => h) (Or.inl ⟨by rfl, ?_⟩) hHeld ?_ ?_
        rotate_left
        · rintro w' ⟨s0, s1, s2, s3, s4, s5, s6, s7, s8⟩
          go_simp
          with_reducible rfl
        rotate_left
        · simp only [Act.put, List.setIfInBounds_toArray, List.set_cons_zero, List.set_cons_succ, i64_w, i32_w]
          rfl
        refine join_ (σ := Nat × Option Addr × Nat × Nat × Int) 2 #[true, true, true, true, true, true, true, true, true, true, true, false, false] (fun s => [(77, .tuple #[.agg #[.slice s.2.1 s.2.2.1 s.2.2.2.1, .int .i64 (D.room : Int), .bool D.fuse.isSome, .int .i64 s.2.2.2.2, .bool D.dead, .int .u64 (Q : Int), .bool R], .int .i64 (E : Int)]), (70, .tuple #[.agg #[.slice s.2.1 s.2.2.1 s.2.2.2.1, .int .i64 (D.room : Int), .bool D.fuse.isSome, .int .i64 s.2.2.2.2, .bool D.dead, .int .u64 (Q : Int), .bool R], .int .i64 (E : Int)]), (78, .agg #[.slice s.2.1 s.2.2.1 s.2.2.2.1, .int .i64 (D.room : Int), .bool D.fuse.isSome, .int .i64 s.2.2.2.2, .bool D.dead, .int .u64 (Q : Int), .bool R]), (79, .int .i64 (E : Int)), (6, .pointer (some ⟨s.1, 0, none⟩))]) (fun s w' => w'.heap[s.1]? = some (.cells #[.slice none 0 0, .int .i64 0, .bool false, .int .i64 0, .bool false, .int .u64 0, .bool false] 35) ∧ IsT w' (.agg #[.slice s.2.1 s.2.2.1 s.2.2.2.1, .int .i64 (D.room : Int), .bool D.fuse.isSome, .int .i64 s.2.2.2.2, .bool D.dead]) D ∧ Kp [] W1.heap.size W1 w' ∧ W1.heap.size ≤ s.1) ?_ ?_
        rotate_left
        · intro hCont
          refine two_ (i := 6) (j := 10) (Ni := some 77) (Nj := some 6) #[true, true, true, true, true, true, true, false, false, false, false, false, false] #[true, true, true, true, true, true, false, false, false, false, true, false, false] rfl rfl rfl rfl (by kernel_rfl) (by decide) (by decide) (fun K hK => ?_) (fun K hK => ?_)
          · skip
            refine goes_ Tryz.func23 (by kernel_rfl) rfl #[.agg #[.slice ao n cap, .int .i64 (d.room : Int), .bool d.fuse.isSome, .int .i64 left, .bool d.dead, .int .u64 (q : Int), .bool br], .slice bo bl bc] (by rfl) rfl rfl (by simp only [List.map_toArray, List.map_cons, List.map_nil]; rfl) ?_
            with_reducible refine (HRP.out _ hHeld.2.2.2.2.2.2.2.2).mono ?_
            rintro e w9 ⟨ao9, n9, cap9, left9, rfl, h9, k9⟩
            refine ⟨_, rfl, ?_⟩
            have HT9 := Lib.hid h9
            have K9 := Lib.hid (hHeld.2.2.2.2.2.2.2.2.trans (k9.mono (by simp) hHeld.2.2.2.2.2.2.2.2.size))
            clear h9 k9
            refine hK.out _ _ ⟨((K9.out.cell (p := ⟨gb, 2, none⟩) hgl (by simp)).trans b2), ((K9.out.cell (p := ⟨gb, 3, none⟩) hgl (by simp)).trans b3), ((K9.out.cell (p := ⟨gb, 4, none⟩) hgl (by simp)).trans b4), ((K9.out.cell (p := ⟨gb, 5, none⟩) hgl (by simp)).trans b5), ((K9.out.cell (p := ⟨gb, 6, none⟩) hgl (by simp)).trans b6), ((K9.out.cell (p := ⟨gb, 7, none⟩) hgl (by simp)).trans b7), ((K9.out.cell (p := ⟨gb, 8, none⟩) hgl (by simp)).trans b8), ((K9.out.cell (p := ⟨w.heap.size, 2, none⟩) hdl (by simp)).trans c2), K9.out⟩ (fun hHeld => ?_)
            clear hK K
            refine norm_ (a' := ?_) ?_ ?_
            rotate_left
            · show Act.put _ (some 77) _ = _
              simp only [Act.put, List.setIfInBounds_toArray, List.set_cons_zero, List.set_cons_succ, i64_w, i32_w]
              rfl
            refine pure_ (i := 7) (N := some 70) (v := ?_) (a' := ?_) #[true, true, true, true, true, true, true, true, false, false, false, false, false] rfl rfl (by kernel_rfl) (fun _ _ _ h => h) (Or.inl ⟨by rfl, ?_⟩) ?_ ?_
            rotate_left
            · intro w'
              go_simp
              with_reducible rfl
            rotate_left
            · simp only [Act.put, List.setIfInBounds_toArray, List.set_cons_zero, List.set_cons_succ, i64_w, i32_w]
              rfl
            refine pure_ (i := 8) (N := some 78) (v := ?_) (a' := ?_) #[true, true, true, true, true, true, true, true, true, false, false, false, false] rfl rfl (by kernel_rfl) (fun _ _ _ h => h) (Or.inl ⟨by rfl, ?_⟩) ?_ ?_
            rotate_left
            · intro w'
              go_simp
              with_reducible rfl
            rotate_left
            · simp only [Act.put, List.setIfInBounds_toArray, List.set_cons_zero, List.set_cons_succ, i64_w, i32_w]
              rfl
            refine pure_ (i := 9) (N := some 79) (v := ?_) (a' := ?_) #[true, true, true, true, true, true, true, true, true, true, false, false, false] rfl rfl (by kernel_rfl) (fun _ _ _ h => h) (Or.inl ⟨by rfl, ?_⟩) ?_ ?_
            rotate_left
            · intro w'
              go_simp
              with_reducible rfl
            rotate_left
            · simp only [Act.put, List.setIfInBounds_toArray, List.set_cons_zero, List.set_cons_succ, i64_w, i32_w]
              rfl
            refine one_ (i := 10) (N := some 6) #[true, true, true, true, true, true, true, true, true, true, true, false, false] rfl rfl (by kernel_rfl) (by decide) (fun K hK => ?_)
            refine value_ (w1 := ?_) (v := ?_) (by rfl) rfl ?_ ?_
            rotate_left 2
            · go_simp
              constructor
              · rfl
              · rfl
            have KA := Lib.hid (K9.out.alloc K9.out.size (.cells #[.slice none 0 0, .int .i64 0, .bool false, .int .i64 0, .bool false, .int .u64 0, .bool false] 35))
            have HZB := Lib.hid (World.alloc_heap_new w9 (.cells #[.slice none 0 0, .int .i64 0, .bool false, .int .i64 0, .bool false, .int .u64 0, .bool false] 35))
            refine hK.out _ _ ⟨((KA.out.cell (p := ⟨gb, 2, none⟩) hgl (by simp)).trans b2), ((KA.out.cell (p := ⟨gb, 3, none⟩) hgl (by simp)).trans b3), ((KA.out.cell (p := ⟨gb, 4, none⟩) hgl (by simp)).trans b4), ((KA.out.cell (p := ⟨gb, 5, none⟩) hgl (by simp)).trans b5), ((KA.out.cell (p := ⟨gb, 6, none⟩) hgl (by simp)).trans b6), ((KA.out.cell (p := ⟨gb, 7, none⟩) hgl (by simp)).trans b7), ((KA.out.cell (p := ⟨gb, 8, none⟩) hgl (by simp)).trans b8), ((KA.out.cell (p := ⟨w.heap.size, 2, none⟩) hdl (by simp)).trans c2), KA.out⟩ (fun hHeld => ?_)
            clear hK K
            refine norm_ (a' := ?_) ?_ ?_
            rotate_left
            · show Act.put _ (some 6) _ = _
              simp only [Act.put, List.setIfInBounds_toArray, List.set_cons_zero, List.set_cons_succ, i64_w, i32_w]
              rfl
            exact norm_ (by simp only [putAll, Act.put, List.setIfInBounds_toArray, List.set_cons_zero, List.set_cons_succ]) (hCont ⟨w9.heap.size, ao9, n9, cap9, left9⟩ _ ⟨HZB.out, HT9.out.kp (kp1 w9 _), KA.out, K9.out.size⟩)
          · skip
            refine value_ (w1 := ?_) (v := ?_) (by rfl) rfl ?_ ?_
            rotate_left 2
            · go_simp
              constructor
              · rfl
              · rfl
            have KA := Lib.hid ((kp1 W1 (.cells #[.slice none 0 0, .int .i64 0, .bool false, .int .i64 0, .bool false, .int .u64 0, .bool false] 35)).drew 1)
            have HZB := Lib.hid (World.alloc_heap_new W1 (.cells #[.slice none 0 0, .int .i64 0, .bool false, .int .i64 0, .bool false, .int .u64 0, .bool false] 35))
            refine hK.out _ _ ⟨((KA.out.cell (p := ⟨gb, 2, none⟩) hgl (by simp)).trans b2), ((KA.out.cell (p := ⟨gb, 3, none⟩) hgl (by simp)).trans b3), ((KA.out.cell (p := ⟨gb, 4, none⟩) hgl (by simp)).trans b4), ((KA.out.cell (p := ⟨gb, 5, none⟩) hgl (by simp)).trans b5), ((KA.out.cell (p := ⟨gb, 6, none⟩) hgl (by simp)).trans b6), ((KA.out.cell (p := ⟨gb, 7, none⟩) hgl (by simp)).trans b7), ((KA.out.cell (p := ⟨gb, 8, none⟩) hgl (by simp)).trans b8), ((KA.out.cell (p := ⟨w.heap.size, 2, none⟩) hdl (by simp)).trans c2), KA.out⟩ (fun hHeld => ?_)
            clear hK K
            refine norm_ (a' := ?_) ?_ ?_
            rotate_left
            · show Act.put _ (some 6) _ = _
              simp only [Act.put, List.setIfInBounds_toArray, List.set_cons_zero, List.set_cons_succ, i64_w, i32_w]
              rfl
            refine one_ (i := 6) (N := some 77) #[true, true, true, true, true, true, true, false, false, false, true, false, false] rfl rfl (by kernel_rfl) (by decide) (fun K hK => ?_)
            refine goes_ Tryz.func23 (by kernel_rfl) rfl #[.agg #[.slice ao n cap, .int .i64 (d.room : Int), .bool d.fuse.isSome, .int .i64 left, .bool d.dead, .int .u64 (q : Int), .bool br], .slice bo bl bc] (by rfl) rfl rfl (by simp only [List.map_toArray, List.map_cons, List.map_nil]; rfl) ?_
            with_reducible refine (HRP.out _ hHeld.2.2.2.2.2.2.2.2).mono ?_
            rintro e w9 ⟨ao9, n9, cap9, left9, rfl, h9, k9⟩
            refine ⟨_, rfl, ?_⟩
            have HT9 := Lib.hid h9
            have K9 := Lib.hid (hHeld.2.2.2.2.2.2.2.2.trans (k9.mono (by simp) hHeld.2.2.2.2.2.2.2.2.size))
            have HZB := Lib.hid ((k9.block W1.heap.size (Array.getElem?_eq_some_iff.1 HZB.out).1 (by simp)).trans HZB.out)
            clear h9 k9
            refine hK.out _ _ ⟨((K9.out.cell (p := ⟨gb, 2, none⟩) hgl (by simp)).trans b2), ((K9.out.cell (p := ⟨gb, 3, none⟩) hgl (by simp)).trans b3), ((K9.out.cell (p := ⟨gb, 4, none⟩) hgl (by simp)).trans b4), ((K9.out.cell (p := ⟨gb, 5, none⟩) hgl (by simp)).trans b5), ((K9.out.cell (p := ⟨gb, 6, none⟩) hgl (by simp)).trans b6), ((K9.out.cell (p := ⟨gb, 7, none⟩) hgl (by simp)).trans b7), ((K9.out.cell (p := ⟨gb, 8, none⟩) hgl (by simp)).trans b8), ((K9.out.cell (p := ⟨w.heap.size, 2, none⟩) hdl (by simp)).trans c2), K9.out⟩ (fun hHeld => ?_)
            clear hK K
            refine norm_ (a' := ?_) ?_ ?_
            rotate_left
            · show Act.put _ (some 77) _ = _
              simp only [Act.put, List.setIfInBounds_toArray, List.set_cons_zero, List.set_cons_succ, i64_w, i32_w]
              rfl
            refine pure_ (i := 7) (N := some 70) (v := ?_) (a' := ?_) #[true, true, true, true, true, true, true, true, false, false, true, false, false] rfl rfl (by kernel_rfl) (fun _ _ _ h => h) (Or.inl ⟨by rfl, ?_⟩) ?_ ?_
            rotate_left
            · intro w'
              go_simp
              with_reducible rfl
            rotate_left
            · simp only [Act.put, List.setIfInBounds_toArray, List.set_cons_zero, List.set_cons_succ, i64_w, i32_w]
              rfl
            refine pure_ (i := 8) (N := some 78) (v := ?_) (a' := ?_) #[true, true, true, true, true, true, true, true, true, false, true, false, false] rfl rfl (by kernel_rfl) (fun _ _ _ h => h) (Or.inl ⟨by rfl, ?_⟩) ?_ ?_
            rotate_left
            · intro w'
              go_simp
              with_reducible rfl
            rotate_left
            · simp only [Act.put, List.setIfInBounds_toArray, List.set_cons_zero, List.set_cons_succ, i64_w, i32_w]
              rfl
            refine pure_ (i := 9) (N := some 79) (v := ?_) (a' := ?_) #[true, true, true, true, true, true, true, true, true, true, true, false, false] rfl rfl (by kernel_rfl) (fun _ _ _ h => h) (Or.inl ⟨by rfl, ?_⟩) ?_ ?_
            rotate_left
            · intro w'
              go_simp
              with_reducible rfl
            rotate_left
            · simp only [Act.put, List.setIfInBounds_toArray, List.set_cons_zero, List.set_cons_succ, i64_w, i32_w]
              rfl
            exact norm_ (by simp only [putAll, Act.put, List.setIfInBounds_toArray, List.set_cons_zero, List.set_cons_succ]) (hCont ⟨W1.heap.size, ao9, n9, cap9, left9⟩ _ ⟨HZB.out, HT9.out, K9.out, Nat.le_refl _⟩)
        rintro ⟨g9, ao9, n9, cap9, left9⟩ w9 ⟨hzb, h9, k9, hg9⟩
        simp only at hzb h9 hg9
        have HT9 := Lib.hid h9
        have K9 := Lib.hid k9
        have HZB := Lib.hid hzb
        obtain ⟨y0, y1, y2, y3, y4, y5, y6⟩ := boxA hzb
        have f0 : w9.frozen? ⟨g9, 0, none⟩ = false := Lib.frozen_of_heap hzb 0
        have f1 : w9.frozen? ⟨g9, 1, none⟩ = false := Lib.frozen_of_heap hzb 1
        have f2 : w9.frozen? ⟨g9, 2, none⟩ = false := Lib.frozen_of_heap hzb 2
        have f3 : w9.frozen? ⟨g9, 3, none⟩ = false := Lib.frozen_of_heap hzb 3
        have f4 : w9.frozen? ⟨g9, 4, none⟩ = false := Lib.frozen_of_heap hzb 4
        have f5 : w9.frozen? ⟨g9, 5, none⟩ = false := Lib.frozen_of_heap hzb 5
        have f6 : w9.frozen? ⟨g9, 6, none⟩ = false := Lib.frozen_of_heap hzb 6
        clear hzb h9 k9
        have hHeld : w9.cell? ⟨gb, 2, none⟩ = some (.slice ao n cap) ∧ w9.cell? ⟨gb, 3, none⟩ = some (.int .i64 (d.room : Int)) ∧ w9.cell? ⟨gb, 4, none⟩ = some (.bool d.fuse.isSome) ∧ w9.cell? ⟨gb, 5, none⟩ = some (.int .i64 left) ∧ w9.cell? ⟨gb, 6, none⟩ = some (.bool d.dead) ∧ w9.cell? ⟨gb, 7, none⟩ = some (.int .u64 (q : Int)) ∧ w9.cell? ⟨gb, 8, none⟩ = some (.bool br) ∧ w9.cell? ⟨w.heap.size, 2, none⟩ = some (.slice bo bl bc) ∧ Kp [] W1.heap.size W1 w9 := ⟨((K9.out.cell (p := ⟨gb, 2, none⟩) hgl (by simp)).trans b2), ((K9.out.cell (p := ⟨gb, 3, none⟩) hgl (by simp)).trans b3), ((K9.out.cell (p := ⟨gb, 4, none⟩) hgl (by simp)).trans b4), ((K9.out.cell (p := ⟨gb, 5, none⟩) hgl (by simp)).trans b5), ((K9.out.cell (p := ⟨gb, 6, none⟩) hgl (by simp)).trans b6), ((K9.out.cell (p := ⟨gb, 7, none⟩) hgl (by simp)).trans b7), ((K9.out.cell (p := ⟨gb, 8, none⟩) hgl (by simp)).trans b8), ((K9.out.cell (p := ⟨w.heap.size, 2, none⟩) hdl (by simp)).trans c2), K9.out⟩
        refine norm_ (a' := ?_) ?_ ?_
        rotate_left
        · simp only [putAll, Act.put, List.setIfInBounds_toArray, List.set_cons_zero, List.set_cons_succ]
          rfl
        refine last_ (i := 11) (N := none) #[true, true, true, true, true, true, true, true, true, true, true, true, false] rfl rfl (by kernel_rfl) (by decide) (fun K hK => ?_)
        refine skip_ (w1 := ?_) (by rfl) rfl ?_ ?_
        rotate_left
        · go_simp
          rfl
        refine hK.out _ _ ?_
        clear hK K
        refine pure_ (i := 12) (N := some 7) (v := ?_) (a' := ?_) #[true, true, true, true, true, true, true, true, true, true, true, true, true] rfl rfl (by kernel_rfl) (fun _ _ _ h => h) (Or.inl ⟨by rfl, ?_⟩) ?_ ?_
        rotate_left
        · intro w'
          go_simp
          with_reducible rfl
        rotate_left
        · simp only [Act.put, List.setIfInBounds_toArray, List.set_cons_zero, List.set_cons_succ, i64_w, i32_w]
          rfl
        refine done_ (by kernel_rfl) ?_

        go_wp2
        go_meet
        have hzb := HZB.out
        have kl := set7b_kp w9 g9 (.slice ao9 n9 cap9) (.int .i64 (D.room : Int)) (.bool D.fuse.isSome) (.int .i64 left9) (.bool D.dead) (.int .u64 (Q : Int)) (.bool R)
        have hb := set7b hzb (.slice ao9 n9 cap9) (.int .i64 (D.room : Int)) (.bool D.fuse.isSome) (.int .i64 left9) (.bool D.dead) (.int .u64 (Q : Int)) (.bool R)
        have ht := HT9.out.shun hzb (by decide) noU8_0 kl
        have k2 := K9.out.trans (kl.shed (B' := W1.heap.size) (by simp; omega) K9.out.size)
        exact ⟨_, rfl, rfl, ao9, n9, cap9, left9, hb, ht, k2⟩
      case rest =>
        obtain ⟨g9, rfl, rfl, hcut9⟩ := hcut
        obtain ⟨ao9, n9, cap9, left9, hb9, ht9, k9⟩ := hcut9.out
        have hx9 := (k9.block gb hgl (by simp)).trans HBX.out
        have HG9 := Lib.hid hb9
        have HT9 := Lib.hid ht9
        have HX9 := Lib.hid hx9
        have HLG9 := Lib.hid (HLG1.out.kp k9)
        have HC9 := Lib.hid ((k9.block w.heap.size hdl (by simp)).trans HDE.out)
        have HV9 := Lib.hid (HV.out.kp k9 (by simp))
        have HK9 : Hid (Kp [] G w wc) := (HKD.out.mono (by simp) hG).trans (k9.mono (by simp) (by omega))
        have hs9 : W1.heap.size ≤ wc.heap.size := k9.size
        clear b0 b1 b2 b3 b4 b5 b6 b7 b8 c0 c1 c2
        obtain ⟨b0, b1, b2, b3, b4, b5, b6, b7, b8⟩ := boxB hx9
        have f2 : wc.frozen? ⟨gb, 2, none⟩ = false := Lib.frozen_of_heap hx9 2
        have f3 : wc.frozen? ⟨gb, 3, none⟩ = false := Lib.frozen_of_heap hx9 3
        have f4 : wc.frozen? ⟨gb, 4, none⟩ = false := Lib.frozen_of_heap hx9 4
        have f5 : wc.frozen? ⟨gb, 5, none⟩ = false := Lib.frozen_of_heap hx9 5
        have f6 : wc.frozen? ⟨gb, 6, none⟩ = false := Lib.frozen_of_heap hx9 6
        have f7 : wc.frozen? ⟨gb, 7, none⟩ = false := Lib.frozen_of_heap hx9 7
        have f8 : wc.frozen? ⟨gb, 8, none⟩ = false := Lib.frozen_of_heap hx9 8
        clear hcut9 hb9 ht9 k9 hx9 HRP HLG1
        go_upto_region 19 with (refine wpList_ld14 rfl _ rfl _ _ rfl HG9.out rfl ?_)
        have kl := setL_kp wc gb (.slice ao9 n9 cap9) (.int .i64 (D.room : Int)) (.bool D.fuse.isSome) (.int .i64 left9) (.bool D.dead) (.int .u64 (Q : Int)) (.bool R)
        have hb := setL HX9.out (.slice ao9 n9 cap9) (.int .i64 (D.room : Int)) (.bool D.fuse.isSome) (.int .i64 left9) (.bool D.dead) (.int .u64 (Q : Int)) (.bool R)
        obtain ⟨W9, hW9⟩ : ∃ W, W = (((((((wc.setCell ⟨gb, 2, none⟩ (.slice ao9 n9 cap9)).setCell ⟨gb, 3, none⟩ (.int .i64 (D.room : Int))).setCell ⟨gb, 4, none⟩ (.bool D.fuse.isSome)).setCell ⟨gb, 5, none⟩ (.int .i64 left9)).setCell ⟨gb, 6, none⟩ (.bool D.dead)).setCell ⟨gb, 7, none⟩ (.int .u64 (Q : Int))).setCell ⟨gb, 8, none⟩ (.bool R)) := ⟨_, rfl⟩
        rw [← hW9] at kl hb ⊢
        have HTW := Lib.hid (HT9.out.shy (shyB HX9.out) kl)
        have HLW := Lib.hid (HLG9.out.kpG kl HAP.out hlb1)
        have HXW := Lib.hid hb
        have hcw := (kl.block w.heap.size (by omega) (by simp; omega)).trans HC9.out
        have HVW := Lib.hid (HV9.out.kp kl (by simp; have := HLOW.out; omega))
        have HKW : Hid (Kp [] G w W9) := HK9.out.trans (kl.shed (B' := G) (by have := HLOW.out; simp; omega) (by omega))
        have hsw : wc.heap.size ≤ W9.heap.size := kl.size
        have hbw := hb
        clear kl hb hW9 b0 b1 b2 b3 b4 b5 b6 b7 b8 f2 f3 f4 f5 f6 f7 f8
        obtain ⟨b0, b1, b2, b3, b4, b5, b6, b7, b8⟩ := boxB hbw
        obtain ⟨c0, c1, c2⟩ := boxF hcw
        clear hbw hcw
        have hkz : Kp [] W9.heap.size W9 W9.drew := (Kp.refl _ _ _).drew 1
        have hE1 : IntKind.i64.wrap (E : Int) = (E : Int) := IntWalk.i64_in _ ⟨by omega, by omega⟩
        have hE2 : wrap64 (E : Int) = (E : Int) := by rw [← i64_w]; exact hE1
        refine start_ (n := 11) (S := fun w' => w'.cell? ⟨gb, 1, none⟩ = some (.pointer (some ⟨lb, 0, none⟩)) ∧ w'.cell? ⟨w.heap.size, 2, none⟩ = some (.slice bo bl bc) ∧ Kp [] W9.heap.size W9 w') (ds := [6]) #[false, false, false, false, false, false, false, false, false, false, false] (by kernel_rfl) rfl rfl ⟨(by exact b1), (by exact c2), hkz⟩ (fun hHeld => ?_)
        refine pure_ (i := 0) (N := some 84) (v := ?_) (a' := ?_) #[true, false, false, false, false, false, false, false, false, false, false] rfl rfl (by kernel_rfl) (fun _ _ _ h => h) (Or.inl ⟨by rfl, ?_⟩) ?_ ?_
        rotate_left
        · intro w'
          go_simp
          with_reducible rfl
        rotate_left
        · simp only [Act.put, List.setIfInBounds_toArray, List.set_cons_zero, List.set_cons_succ, i64_w, i32_w]
          rfl
        refine pure_ (i := 1) (N := some 85) (v := ?_) (a' := ?_) #[true, true, false, false, false, false, false, false, false, false, false] rfl rfl (by kernel_rfl) (fun _ _ _ h => h) (Or.inl ⟨by rfl, ?_⟩) ?_ ?_
        rotate_left
        · intro w'
          go_simp
          with_reducible rfl
        rotate_left
        · simp only [Act.put, List.setIfInBounds_toArray, List.set_cons_zero, List.set_cons_succ, i64_w, i32_w]
          rfl
        refine pure_ (i := 2) (N := some 86) (v := ?_) (a' := ?_) #[true, true, true, false, false, false, false, false, false, false, false] rfl rfl (by kernel_rfl) (fun _ _ _ h => h) (Or.inl ⟨by rfl, ?_⟩) ?_ ?_
        rotate_left
        · intro w'
          go_simp
          with_reducible rfl
        rotate_left
        · simp only [Act.put, List.setIfInBounds_toArray, List.set_cons_zero, List.set_cons_succ, i64_w, i32_w]
          rfl
        refine pure_ (i := 4) (N := some 88) (v := ?_) (a' := ?_) #[true, true, true, false, true, false, false, false, false, false, false] rfl rfl (by kernel_rfl) (fun _ _ _ h => h) (Or.inl ⟨by rfl, ?_⟩) ?_ ?_
        rotate_left
        · intro w'
          go_simp
          with_reducible rfl
        rotate_left
        · simp only [Act.put, List.setIfInBounds_toArray, List.set_cons_zero, List.set_cons_succ, i64_w, i32_w]
          rfl
        refine pure_ (i := 8) (N := some 92) (v := ?_) (a' := ?_) #[true, true, true, false, true, false, false, false, true, false, false] rfl rfl (by kernel_rfl) (fun _ _ _ h => h) (Or.inl ⟨by rfl, ?_⟩) ?_ ?_
        rotate_left
        · intro w'
          go_simp
          with_reducible rfl
        rotate_left
        · simp only [Act.put, List.setIfInBounds_toArray, List.set_cons_zero, List.set_cons_succ, i64_w, i32_w]
          rfl
        refine take_ (i := 3) (N := some 87) (v := ?_) (a' := ?_) #[true, true, true, true, true, false, false, false, true, false, false] rfl rfl (by kernel_rfl) (fun _ _ _ h => h) (Or.inl ⟨by rfl, ?_⟩) hHeld ?_ ?_
        rotate_left
        · rintro w' ⟨s0, s1, s2⟩
          go_simp
          with_reducible rfl
        rotate_left
        · simp only [Act.put, List.setIfInBounds_toArray, List.set_cons_zero, List.set_cons_succ, i64_w, i32_w]
          rfl
        refine take_ (i := 5) (N := some 89) (v := ?_) (a' := ?_) #[true, true, true, true, true, true, false, false, true, false, false] rfl rfl (by kernel_rfl) (fun _ _ _ h => h) (Or.inl ⟨by rfl, ?_⟩) hHeld ?_ ?_
        rotate_left
        · rintro w' ⟨s0, s1, s2⟩
          go_simp
          with_reducible rfl
        rotate_left
        · simp only [Act.put, List.setIfInBounds_toArray, List.set_cons_zero, List.set_cons_succ, i64_w, i32_w]
          rfl
        refine last_ (i := 6) (N := some 90) #[true, true, true, true, true, true, true, false, true, false, false] rfl rfl (by kernel_rfl) (by decide) (fun K hK => ?_)
        refine goes_ Tryz.func24 (by kernel_rfl) rfl #[.pointer (some ⟨lb, 0, none⟩), .slice bo bl bc] (by rfl) rfl rfl (by simp only [List.map_toArray, List.map_cons, List.map_nil]; rfl) ?_
        with_reducible refine (wPack _ (HLW.out.kp hHeld.2.2) _ r.b (HVW.out.kp hHeld.2.2 (by simp)) (fun k hk => HFR.out k (by have := hHeld.2.2.size; omega))).mono ?_
        rintro e wz ⟨rfl, hlz, kz⟩
        refine ⟨_, rfl, ?_⟩
        rw [← HLE.out.1] at hlz
        rw [← HLE.out.2]
        have HLZ := Lib.hid hlz
        have KZ : Hid (Kp [p, mb, lb] W9.heap.size W9 wz) := Lib.hid ((hHeld.2.2.mono (fun _ h => absurd h (by simp)) (Nat.le_refl _)).trans (kz.mono (by simp) hHeld.2.2.size))
        clear hlz kz
        refine hK.out _ _ ?_
        clear hK K
        refine norm_ (a' := ?_) ?_ ?_
        rotate_left
        · show Act.put _ (some 90) _ = _
          simp only [Act.put, List.setIfInBounds_toArray, List.set_cons_zero, List.set_cons_succ, i64_w, i32_w]
          rfl
        refine pure_ (i := 7) (N := some 91) (v := ?_) (a' := ?_) #[true, true, true, true, true, true, true, true, true, false, false] rfl rfl (by kernel_rfl) (fun _ _ _ h => h) (Or.inl ⟨by rfl, ?_⟩) ?_ ?_
        rotate_left
        · intro w'
          go_simp
          with_reducible rfl
        rotate_left
        · simp only [Act.put, List.setIfInBounds_toArray, List.set_cons_zero, List.set_cons_succ, i64_w, i32_w]
          rfl
        refine pure_ (i := 9) (N := some 93) (v := ?_) (a' := ?_) #[true, true, true, true, true, true, true, true, true, true, false] rfl rfl (by kernel_rfl) (fun _ _ _ h => h) (Or.inl ⟨by rfl, ?_⟩) ?_ ?_
        rotate_left
        · intro w'
          go_simp
          with_reducible rfl
        rotate_left
        · simp only [Act.put, List.setIfInBounds_toArray, List.set_cons_zero, List.set_cons_succ, i64_w, i32_w]
          rfl
        refine pure_ (i := 10) (N := some 4) (v := ?_) (a' := ?_) #[true, true, true, true, true, true, true, true, true, true, true] rfl rfl (by kernel_rfl) (fun _ _ _ h => h) (Or.inl ⟨by rfl, ?_⟩) ?_ ?_
        rotate_left
        · intro w'
          go_simp
          with_reducible rfl
        rotate_left
        · simp only [Act.put, List.setIfInBounds_toArray, List.set_cons_zero, List.set_cons_succ, i64_w, i32_w]
          rfl
        refine done_ (by kernel_rfl) ?_

        go_wp2
        go_ret
        refine ⟨by simp, ⟨A, _, ⟨D, Q, R⟩, ⟨⟨HLZ.out.2.1, ⟨ao9, n9, cap9, left9, (KZ.out.block gb (by omega) (by simp; have := HAP.out; omega)).trans HXW.out, HTW.out.shy (shyL HLW.out) KZ.out⟩, HAP.out⟩, fun a ha => ⟨lb, (by injection ha with ha; exact ha.symm), HLZ.out, hlb1, hlb2⟩, fun k hk => HFR.out k (by have := KZ.out.size; omega), HLOW.out, hroomD⟩⟩, HKW.out.trans (KZ.out.shed (B' := G) (by have := HLOW.out; simp; omega) (by omega))⟩
  · skip
    cases lp with
    | none => exact absurd rfl (hlp (by omega))
    | some a =>
      obtain ⟨lb, rfl, hlg, hlb1, hlb2⟩ := HLO.out a rfl
      have HLG1 := Lib.hid (hlg.kp HKD.out)
      have hlbl : lb < W1.heap.size := HLG1.out.lt
      have hlbp : lb ≠ p ∧ lb ≠ mb := ⟨hlg.2.2.1, hlg.2.2.2.1⟩
      have hq64 : q < 18446744073709551616 := hlg.2.2.2.2.2
      obtain ⟨⟨D, Q, R⟩, hL⟩ : ∃ L, L = ((Lg.mk d q br).pack r.b).1 := ⟨_, rfl⟩
      obtain ⟨E, hE⟩ : ∃ E, E = ((Lg.mk d q br).pack r.b).2 := ⟨_, rfl⟩
      have HLE : Hid ((⟨D, Q, R⟩ : Lg) = ((Lg.mk d q br).pack r.b).1 ∧ E = ((Lg.mk d q br).pack r.b).2) := ⟨hL, hE⟩
      have hE22 : E ≤ 22 := by rw [hE]; exact lg_pack_err _ _
      have hroomD : D.room ≤ 3000 := by have h := lg_pack_room ⟨d, q, br⟩ r.b; rw [← hL] at h; simp only at h; omega
      have HRP : Hid (∀ W, Kp [] W1.heap.size W1 W → Calls Tryz.prog 23 #[.agg #[.slice ao n cap, .int .i64 (d.room : Int), .bool d.fuse.isSome, .int .i64 left, .bool d.dead, .int .u64 (q : Int), .bool br], .slice bo bl bc] W fun e w' => ∃ ao9 n9 cap9 left9, e = .returned (.tuple #[.agg #[.slice ao9 n9 cap9, .int .i64 (D.room : Int), .bool D.fuse.isSome, .int .i64 left9, .bool D.dead, .int .u64 (Q : Int), .bool R], .int .i64 (E : Int)]) ∧ IsT w' (.agg #[.slice ao9 n9 cap9, .int .i64 (D.room : Int), .bool D.fuse.isSome, .int .i64 left9, .bool D.dead]) D ∧ Kp [] W.heap.size W w') := fun W hK => by
        refine (r14Pack ⟨d, q, br⟩ _ r.b _ W ⟨ao, n, cap, left, rfl, HT1.out.kp hK, hq64⟩ (HV.out.kp hK (by simp))).mono ?_
        rintro e w9 ⟨v9, rfl, h9, k9⟩
        rw [← HLE.out.1, ← HLE.out.2] at *
        obtain ⟨ao9, n9, cap9, left9, rfl, h9, -⟩ := h9
        exact ⟨ao9, n9, cap9, left9, rfl, h9, k9⟩
      clear hL hE hlg
      go_upto_region 17 with fail
      go_cut [6, 7] (fun pg e1 wx => ∃ (g : Nat), pg = .pointer (some ⟨g, 0, none⟩) ∧ e1 = .int .i64 (E : Int) ∧ Hid (∃ ao9 n9 cap9 left9, wx.heap[g]? = some (.cells #[.slice ao9 n9 cap9, .int .i64 (D.room : Int), .bool D.fuse.isSome, .int .i64 left9, .bool D.dead, .int .u64 (Q : Int), .bool R] 35 (0, 0)) ∧ IsT wx (.agg #[.slice ao9 n9 cap9, .int .i64 (D.room : Int), .bool D.fuse.isSome, .int .i64 left9, .bool D.dead]) D ∧ Kp [] W1.heap.size W1 wx))
      case first =>
        have hkz : Kp [] W1.heap.size W1 W1.drew := (Kp.refl _ _ _).drew 1
        refine start_ (n := 13) (S := fun w' => w'.cell? ⟨gb, 2, none⟩ = some (.slice ao n cap) ∧ w'.cell? ⟨gb, 3, none⟩ = some (.int .i64 (d.room : Int)) ∧ w'.cell? ⟨gb, 4, none⟩ = some (.bool d.fuse.isSome) ∧ w'.cell? ⟨gb, 5, none⟩ = some (.int .i64 left) ∧ w'.cell? ⟨gb, 6, none⟩ = some (.bool d.dead) ∧ w'.cell? ⟨gb, 7, none⟩ = some (.int .u64 (q : Int)) ∧ w'.cell? ⟨gb, 8, none⟩ = some (.bool br) ∧ w'.cell? ⟨w.heap.size, 2, none⟩ = some (.slice bo bl bc) ∧ Kp [] W1.heap.size W1 w') (ds := [11]) #[false, false, false, false, false, false, false, false, false, false, false, false, false] (by kernel_rfl) rfl rfl ⟨(by exact b2), (by exact b3), (by exact b4), (by exact b5), (by exact b6), (by exact b7), (by exact b8), (by exact c2), hkz⟩ (fun hHeld => ?_)
        refine pure_ (i := 0) (N := some 71) (v := ?_) (a' := ?_) #[true, false, false, false, false, false, false, false, false, false, false, false, false] rfl rfl (by kernel_rfl) (fun _ _ _ h => h) (Or.inl ⟨by rfl, ?_⟩) ?_ ?_
        rotate_left
        · intro w'
          go_simp
          with_reducible rfl
        rotate_left
        · simp only [Act.put, List.setIfInBounds_toArray, List.set_cons_zero, List.set_cons_succ, i64_w, i32_w]
          rfl
        refine pure_ (i := 1) (N := some 72) (v := ?_) (a' := ?_) #[true, true, false, false, false, false, false, false, false, false, false, false, false] rfl rfl (by kernel_rfl) (fun _ _ _ h => h) (Or.inl ⟨by rfl, ?_⟩) ?_ ?_
        rotate_left
        · intro w'
          go_simp
          with_reducible rfl
        rotate_left
        · simp only [Act.put, List.setIfInBounds_toArray, List.set_cons_zero, List.set_cons_succ, i64_w, i32_w]
          rfl
        refine pure_ (i := 2) (N := some 73) (v := ?_) (a' := ?_) #[true, true, true, false, false, false, false, false, false, false, false, false, false] rfl rfl (by kernel_rfl) (fun _ _ _ h => h) (Or.inl ⟨by rfl, ?_⟩) ?_ ?_
        rotate_left
        · intro w'
          go_simp
          with_reducible rfl
        rotate_left
        · simp only [Act.put, List.setIfInBounds_toArray, List.set_cons_zero, List.set_cons_succ, i64_w, i32_w]
          rfl
        refine pure_ (i := 4) (N := some 75) (v := ?_) (a' := ?_) #[true, true, true, false, true, false, false, false, false, false, false, false, false] rfl rfl (by kernel_rfl) (fun _ _ _ h => h) (Or.inl ⟨by rfl, ?_⟩) ?_ ?_
        rotate_left
        · intro w'
          go_simp
          with_reducible rfl
        rotate_left
        · simp only [Act.put, List.setIfInBounds_toArray, List.set_cons_zero, List.set_cons_succ, i64_w, i32_w]
          rfl
        refine take_ (i := 3) (N := some 74) (v := ?_) (a' := ?_) #[true, true, true, true, true, false, false, false, false, false, false, false, false] rfl rfl (by kernel_rfl) (fun _ _ _ h => h) (Or.inl ⟨by rfl, ?_⟩) hHeld ?_ ?_
        rotate_left
        · rintro w' ⟨s0, s1, s2, s3, s4, s5, s6, s7, s8⟩
          go_simp
          with_reducible rfl
        rotate_left
        · simp only [Act.put, List.setIfInBounds_toArray, List.set_cons_zero, List.set_cons_succ, i64_w, i32_w]
          rfl
        refine take_ (i := 5) (N := some 76) (v := ?_) (a' := ?_) #[true, true, true, true, true, true, false, false, false, false, false, false, false] rfl rfl (by kernel_rfl) (fun _ _ _ h => h) (Or.inl ⟨by rfl, ?_⟩) hHeld ?_ ?_
        rotate_left
        · rintro w' ⟨s0, s1, s2, s3, s4, s5, s6, s7, s8⟩
          go_simp
          with_reducible rfl
        rotate_left
        · simp only [Act.put, List.setIfInBounds_toArray, List.set_cons_zero, List.set_cons_succ, i64_w, i32_w]
          rfl
        refine join_ (σ := Nat × Option Addr × Nat × Nat × Int) 2 #[true, true, true, true, true, true, true, true, true, true, true, false, false] (fun s => [(77, .tuple #[.agg #[.slice s.2.1 s.2.2.1 s.2.2.2.1, .int .i64 (D.room : Int), .bool D.fuse.isSome, .int .i64 s.2.2.2.2, .bool D.dead, .int .u64 (Q : Int), .bool R], .int .i64 (E : Int)]), (70, .tuple #[.agg #[.slice s.2.1 s.2.2.1 s.2.2.2.1, .int .i64 (D.room : Int), .bool D.fuse.isSome, .int .i64 s.2.2.2.2, .bool D.dead, .int .u64 (Q : Int), .bool R], .int .i64 (E : Int)]), (78, .agg #[.slice s.2.1 s.2.2.1 s.2.2.2.1, .int .i64 (D.room : Int), .bool D.fuse.isSome, .int .i64 s.2.2.2.2, .bool D.dead, .int .u64 (Q : Int), .bool R]), (79, .int .i64 (E : Int)), (6, .pointer (some ⟨s.1, 0, none⟩))]) (fun s w' => w'.heap[s.1]? = some (.cells #[.slice none 0 0, .int .i64 0, .bool false, .int .i64 0, .bool false, .int .u64 0, .bool false] 35) ∧ IsT w' (.agg #[.slice s.2.1 s.2.2.1 s.2.2.2.1, .int .i64 (D.room : Int), .bool D.fuse.isSome, .int .i64 s.2.2.2.2, .bool D.dead]) D ∧ Kp [] W1.heap.size W1 w' ∧ W1.heap.size ≤ s.1) ?_ ?_
        rotate_left
        · intro hCont
          refine two_ (i := 6) (j := 10) (Ni := some 77) (Nj := some 6) #[true, true, true, true, true, true, true, false, false, false, false, false, false] #[true, true, true, true, true, true, false, false, false, false, true, false, false] rfl rfl rfl rfl (by kernel_rfl) (by decide) (by decide) (fun K hK => ?_) (fun K hK => ?_)
          · skip
            refine goes_ Tryz.func23 (by kernel_rfl) rfl #[.agg #[.slice ao n cap, .int .i64 (d.room : Int), .bool d.fuse.isSome, .int .i64 left, .bool d.dead, .int .u64 (q : Int), .bool br], .slice bo bl bc] (by rfl) rfl rfl (by simp only [List.map_toArray, List.map_cons, List.map_nil]; rfl) ?_
            with_reducible refine (HRP.out _ hHeld.2.2.2.2.2.2.2.2).mono ?_
            rintro e w9 ⟨ao9, n9, cap9, left9, rfl, h9, k9⟩
            refine ⟨_, rfl, ?_⟩
            have HT9 := Lib.hid h9
            have K9 := Lib.hid (hHeld.2.2.2.2.2.2.2.2.trans (k9.mono (by simp) hHeld.2.2.2.2.2.2.2.2.size))
            clear h9 k9
            refine hK.out _ _ ⟨((K9.out.cell (p := ⟨gb, 2, none⟩) hgl (by simp)).trans b2), ((K9.out.cell (p := ⟨gb, 3, none⟩) hgl (by simp)).trans b3), ((K9.out.cell (p := ⟨gb, 4, none⟩) hgl (by simp)).trans b4), ((K9.out.cell (p := ⟨gb, 5, none⟩) hgl (by simp)).trans b5), ((K9.out.cell (p := ⟨gb, 6, none⟩) hgl (by simp)).trans b6), ((K9.out.cell (p := ⟨gb, 7, none⟩) hgl (by simp)).trans b7), ((K9.out.cell (p := ⟨gb, 8, none⟩) hgl (by simp)).trans b8), ((K9.out.cell (p := ⟨w.heap.size, 2, none⟩) hdl (by simp)).trans c2), K9.out⟩ (fun hHeld => ?_)
            clear hK K
            refine norm_ (a' := ?_) ?_ ?_
            rotate_left
            · show Act.put _ (some 77) _ = _
              simp only [Act.put, List.setIfInBounds_toArray, List.set_cons_zero, List.set_cons_succ, i64_w, i32_w]
              rfl
            refine pure_ (i := 7) (N := some 70) (v := ?_) (a' := ?_) #[true, true, true, true, true, true, true, true, false, false, false, false, false] rfl rfl (by kernel_rfl) (fun _ _ _ h => h) (Or.inl ⟨by rfl, ?_⟩) ?_ ?_
            rotate_left
            · intro w'
              go_simp
              with_reducible rfl
            rotate_left
            · simp only [Act.put, List.setIfInBounds_toArray, List.set_cons_zero, List.set_cons_succ, i64_w, i32_w]
              rfl
            refine pure_ (i := 8) (N := some 78) (v := ?_) (a' := ?_) #[true, true, true, true, true, true, true, true, true, false, false, false, false] rfl rfl (by kernel_rfl) (fun _ _ _ h => h) (Or.inl ⟨by rfl, ?_⟩) ?_ ?_
            rotate_left
            · intro w'
              go_simp
              with_reducible rfl
            rotate_left
            · simp only [Act.put, List.setIfInBounds_toArray, List.set_cons_zero, List.set_cons_succ, i64_w, i32_w]
              rfl
            refine pure_ (i := 9) (N := some 79) (v := ?_) (a' := ?_) #[true, true, true, true, true, true, true, true, true, true, false, false, false] rfl rfl (by kernel_rfl) (fun _ _ _ h => h) (Or.inl ⟨by rfl, ?_⟩) ?_ ?_
            rotate_left
            · intro w'
              go_simp
              with_reducible rfl
            rotate_left
            · simp only [Act.put, List.setIfInBounds_toArray, List.set_cons_zero, List.set_cons_succ, i64_w, i32_w]
              rfl
            refine one_ (i := 10) (N := some 6) #[true, true, true, true, true, true, true, true, true, true, true, false, false] rfl rfl (by kernel_rfl) (by decide) (fun K hK => ?_)
            refine value_ (w1 := ?_) (v := ?_) (by rfl) rfl ?_ ?_
            rotate_left 2
            · go_simp
              constructor
              · rfl
              · rfl
            have KA := Lib.hid (K9.out.alloc K9.out.size (.cells #[.slice none 0 0, .int .i64 0, .bool false, .int .i64 0, .bool false, .int .u64 0, .bool false] 35))
            have HZB := Lib.hid (World.alloc_heap_new w9 (.cells #[.slice none 0 0, .int .i64 0, .bool false, .int .i64 0, .bool false, .int .u64 0, .bool false] 35))
            refine hK.out _ _ ⟨((KA.out.cell (p := ⟨gb, 2, none⟩) hgl (by simp)).trans b2), ((KA.out.cell (p := ⟨gb, 3, none⟩) hgl (by simp)).trans b3), ((KA.out.cell (p := ⟨gb, 4, none⟩) hgl (by simp)).trans b4), ((KA.out.cell (p := ⟨gb, 5, none⟩) hgl (by simp)).trans b5), ((KA.out.cell (p := ⟨gb, 6, none⟩) hgl (by simp)).trans b6), ((KA.out.cell (p := ⟨gb, 7, none⟩) hgl (by simp)).trans b7), ((KA.out.cell (p := ⟨gb, 8, none⟩) hgl (by simp)).trans b8), ((KA.out.cell (p := ⟨w.heap.size, 2, none⟩) hdl (by simp)).trans c2), KA.out⟩ (fun hHeld => ?_)
            clear hK K
            refine norm_ (a' := ?_) ?_ ?_
            rotate_left
            · show Act.put _ (some 6) _ = _
              simp only [Act.put, List.setIfInBounds_toArray, List.set_cons_zero, List.set_cons_succ, i64_w, i32_w]
              rfl
            exact norm_ (by simp only [putAll, Act.put, List.setIfInBounds_toArray, List.set_cons_zero, List.set_cons_succ]) (hCont ⟨w9.heap.size, ao9, n9, cap9, left9⟩ _ ⟨HZB.out, HT9.out.kp (kp1 w9 _), KA.out, K9.out.size⟩)
          · skip
            refine value_ (w1 := ?_) (v := ?_) (by rfl) rfl ?_ ?_
            rotate_left 2
            · go_simp
              constructor
              · rfl
              · rfl
            have KA := Lib.hid ((kp1 W1 (.cells #[.slice none 0 0, .int .i64 0, .bool false, .int .i64 0, .bool false, .int .u64 0, .bool false] 35)).drew 1)
            have HZB := Lib.hid (World.alloc_heap_new W1 (.cells #[.slice none 0 0, .int .i64 0, .bool false, .int .i64 0, .bool false, .int .u64 0, .bool false] 35))
            refine hK.out _ _ ⟨((KA.out.cell (p := ⟨gb, 2, none⟩) hgl (by simp)).trans b2), ((KA.out.cell (p := ⟨gb, 3, none⟩) hgl (by simp)).trans b3), ((KA.out.cell (p := ⟨gb, 4, none⟩) hgl (by simp)).trans b4), ((KA.out.cell (p := ⟨gb, 5, none⟩) hgl (by simp)).trans b5), ((KA.out.cell (p := ⟨gb, 6, none⟩) hgl (by simp)).trans b6), ((KA.out.cell (p := ⟨gb, 7, none⟩) hgl (by simp)).trans b7), ((KA.out.cell (p := ⟨gb, 8, none⟩) hgl (by simp)).trans b8), ((KA.out.cell (p := ⟨w.heap.size, 2, none⟩) hdl (by simp)).trans c2), KA.out⟩ (fun hHeld => ?_)
            clear hK K
            refine norm_ (a' := ?_) ?_ ?_
            rotate_left
            · show Act.put _ (some 6) _ = _
              simp only [Act.put, List.setIfInBounds_toArray, List.set_cons_zero, List.set_cons_succ, i64_w, i32_w]
              rfl
            refine one_ (i := 6) (N := some 77) #[true, true, true, true, true, true, true, false, false, false, true, false, false] rfl rfl (by kernel_rfl) (by decide) (fun K hK => ?_)
            refine goes_ Tryz.func23 (by kernel_rfl) rfl #[.agg #[.slice ao n cap, .int .i64 (d.room : Int), .bool d.fuse.isSome, .int .i64 left, .bool d.dead, .int .u64 (q : Int), .bool br], .slice bo bl bc] (by rfl) rfl rfl (by simp only [List.map_toArray, List.map_cons, List.map_nil]; rfl) ?_
            with_reducible refine (HRP.out _ hHeld.2.2.2.2.2.2.2.2).mono ?_
            rintro e w9 ⟨ao9, n9, cap9, left9, rfl, h9, k9⟩
            refine ⟨_, rfl, ?_⟩
            have HT9 := Lib.hid h9
            have K9 := Lib.hid (hHeld.2.2.2.2.2.2.2.2.trans (k9.mono (by simp) hHeld.2.2.2.2.2.2.2.2.size))
            have HZB := Lib.hid ((k9.block W1.heap.size (Array.getElem?_eq_some_iff.1 HZB.out).1 (by simp)).trans HZB.out)
            clear h9 k9
            refine hK.out _ _ ⟨((K9.out.cell (p := ⟨gb, 2, none⟩) hgl (by simp)).trans b2), ((K9.out.cell (p := ⟨gb, 3, none⟩) hgl (by simp)).trans b3), ((K9.out.cell (p := ⟨gb, 4, none⟩) hgl (by simp)).trans b4), ((K9.out.cell (p := ⟨gb, 5, none⟩) hgl (by simp)).trans b5), ((K9.out.cell (p := ⟨gb, 6, none⟩) hgl (by simp)).trans b6), ((K9.out.cell (p := ⟨gb, 7, none⟩) hgl (by simp)).trans b7), ((K9.out.cell (p := ⟨gb, 8, none⟩) hgl (by simp)).trans b8), ((K9.out.cell (p := ⟨w.heap.size, 2, none⟩) hdl (by simp)).trans c2), K9.out⟩ (fun hHeld => ?_)
            clear hK K
            refine norm_ (a' := ?_) ?_ ?_
            rotate_left
            · show Act.put _ (some 77) _ = _
              simp only [Act.put, List.setIfInBounds_toArray, List.set_cons_zero, List.set_cons_succ, i64_w, i32_w]
              rfl
            refine pure_ (i := 7) (N := some 70) (v := ?_) (a' := ?_) #[true, true, true, true, true, true, true, true, false, false, true, false, false] rfl rfl (by kernel_rfl) (fun _ _ _ h => h) (Or.inl ⟨by rfl, ?_⟩) ?_ ?_
            rotate_left
            · intro w'
              go_simp
              with_reducible rfl
            rotate_left
            · simp only [Act.put, List.setIfInBounds_toArray, List.set_cons_zero, List.set_cons_succ, i64_w, i32_w]
              rfl
            refine pure_ (i := 8) (N := some 78) (v := ?_) (a' := ?_) #[true, true, true, true, true, true, true, true, true, false, true, false, false] rfl rfl (by kernel_rfl) (fun _ _ _ h => h) (Or.inl ⟨by rfl, ?_⟩) ?_ ?_
            rotate_left
            · intro w'
              go_simp
              with_reducible rfl
            rotate_left
            · simp only [Act.put, List.setIfInBounds_toArray, List.set_cons_zero, List.set_cons_succ, i64_w, i32_w]
              rfl
            refine pure_ (i := 9) (N := some 79) (v := ?_) (a' := ?_) #[true, true, true, true, true, true, true, true, true, true, true, false, false] rfl rfl (by kernel_rfl) (fun _ _ _ h => h) (Or.inl ⟨by rfl, ?_⟩) ?_ ?_
            rotate_left
            · intro w'
              go_simp
              with_reducible rfl
            rotate_left
            · simp only [Act.put, List.setIfInBounds_toArray, List.set_cons_zero, List.set_cons_succ, i64_w, i32_w]
              rfl
            exact norm_ (by simp only [putAll, Act.put, List.setIfInBounds_toArray, List.set_cons_zero, List.set_cons_succ]) (hCont ⟨W1.heap.size, ao9, n9, cap9, left9⟩ _ ⟨HZB.out, HT9.out, K9.out, Nat.le_refl _⟩)
        rintro ⟨g9, ao9, n9, cap9, left9⟩ w9 ⟨hzb, h9, k9, hg9⟩
        simp only at hzb h9 hg9
        have HT9 := Lib.hid h9
        have K9 := Lib.hid k9
        have HZB := Lib.hid hzb
        obtain ⟨y0, y1, y2, y3, y4, y5, y6⟩ := boxA hzb
        have f0 : w9.frozen? ⟨g9, 0, none⟩ = false := Lib.frozen_of_heap hzb 0
        have f1 : w9.frozen? ⟨g9, 1, none⟩ = false := Lib.frozen_of_heap hzb 1
        have f2 : w9.frozen? ⟨g9, 2, none⟩ = false := Lib.frozen_of_heap hzb 2
        have f3 : w9.frozen? ⟨g9, 3, none⟩ = false := Lib.frozen_of_heap hzb 3
        have f4 : w9.frozen? ⟨g9, 4, none⟩ = false := Lib.frozen_of_heap hzb 4
        have f5 : w9.frozen? ⟨g9, 5, none⟩ = false := Lib.frozen_of_heap hzb 5
        have f6 : w9.frozen? ⟨g9, 6, none⟩ = false := Lib.frozen_of_heap hzb 6
        clear hzb h9 k9
        have hHeld : w9.cell? ⟨gb, 2, none⟩ = some (.slice ao n cap) ∧ w9.cell? ⟨gb, 3, none⟩ = some (.int .i64 (d.room : Int)) ∧ w9.cell? ⟨gb, 4, none⟩ = some (.bool d.fuse.isSome) ∧ w9.cell? ⟨gb, 5, none⟩ = some (.int .i64 left) ∧ w9.cell? ⟨gb, 6, none⟩ = some (.bool d.dead) ∧ w9.cell? ⟨gb, 7, none⟩ = some (.int .u64 (q : Int)) ∧ w9.cell? ⟨gb, 8, none⟩ = some (.bool br) ∧ w9.cell? ⟨w.heap.size, 2, none⟩ = some (.slice bo bl bc) ∧ Kp [] W1.heap.size W1 w9 := ⟨((K9.out.cell (p := ⟨gb, 2, none⟩) hgl (by simp)).trans b2), ((K9.out.cell (p := ⟨gb, 3, none⟩) hgl (by simp)).trans b3), ((K9.out.cell (p := ⟨gb, 4, none⟩) hgl (by simp)).trans b4), ((K9.out.cell (p := ⟨gb, 5, none⟩) hgl (by simp)).trans b5), ((K9.out.cell (p := ⟨gb, 6, none⟩) hgl (by simp)).trans b6), ((K9.out.cell (p := ⟨gb, 7, none⟩) hgl (by simp)).trans b7), ((K9.out.cell (p := ⟨gb, 8, none⟩) hgl (by simp)).trans b8), ((K9.out.cell (p := ⟨w.heap.size, 2, none⟩) hdl (by simp)).trans c2), K9.out⟩
        refine norm_ (a' := ?_) ?_ ?_
        rotate_left
        · simp only [putAll, Act.put, List.setIfInBounds_toArray, List.set_cons_zero, List.set_cons_succ]
          rfl
        refine last_ (i := 11) (N := none) #[true, true, true, true, true, true, true, true, true, true, true, true, false] rfl rfl (by kernel_rfl) (by decide) (fun K hK => ?_)
        refine skip_ (w1 := ?_) (by rfl) rfl ?_ ?_
        rotate_left
        · go_simp
          rfl
        refine hK.out _ _ ?_
        clear hK K
        refine pure_ (i := 12) (N := some 7) (v := ?_) (a' := ?_) #[true, true, true, true, true, true, true, true, true, true, true, true, true] rfl rfl (by kernel_rfl) (fun _ _ _ h => h) (Or.inl ⟨by rfl, ?_⟩) ?_ ?_
        rotate_left
        · intro w'
          go_simp
          with_reducible rfl
        rotate_left
        · simp only [Act.put, List.setIfInBounds_toArray, List.set_cons_zero, List.set_cons_succ, i64_w, i32_w]
          rfl
        refine done_ (by kernel_rfl) ?_

        go_wp2
        go_meet
        have hzb := HZB.out
        have kl := set7b_kp w9 g9 (.slice ao9 n9 cap9) (.int .i64 (D.room : Int)) (.bool D.fuse.isSome) (.int .i64 left9) (.bool D.dead) (.int .u64 (Q : Int)) (.bool R)
        have hb := set7b hzb (.slice ao9 n9 cap9) (.int .i64 (D.room : Int)) (.bool D.fuse.isSome) (.int .i64 left9) (.bool D.dead) (.int .u64 (Q : Int)) (.bool R)
        have ht := HT9.out.shun hzb (by decide) noU8_0 kl
        have k2 := K9.out.trans (kl.shed (B' := W1.heap.size) (by simp; omega) K9.out.size)
        exact ⟨_, rfl, rfl, ao9, n9, cap9, left9, hb, ht, k2⟩
      case rest =>
        obtain ⟨g9, rfl, rfl, hcut9⟩ := hcut
        obtain ⟨ao9, n9, cap9, left9, hb9, ht9, k9⟩ := hcut9.out
        have hx9 := (k9.block gb hgl (by simp)).trans HBX.out
        have HG9 := Lib.hid hb9
        have HT9 := Lib.hid ht9
        have HX9 := Lib.hid hx9
        have HLG9 := Lib.hid (HLG1.out.kp k9)
        have HC9 := Lib.hid ((k9.block w.heap.size hdl (by simp)).trans HDE.out)
        have HV9 := Lib.hid (HV.out.kp k9 (by simp))
        have HK9 : Hid (Kp [] G w wc) := (HKD.out.mono (by simp) hG).trans (k9.mono (by simp) (by omega))
        have hs9 : W1.heap.size ≤ wc.heap.size := k9.size
        clear b0 b1 b2 b3 b4 b5 b6 b7 b8 c0 c1 c2
        obtain ⟨b0, b1, b2, b3, b4, b5, b6, b7, b8⟩ := boxB hx9
        have f2 : wc.frozen? ⟨gb, 2, none⟩ = false := Lib.frozen_of_heap hx9 2
        have f3 : wc.frozen? ⟨gb, 3, none⟩ = false := Lib.frozen_of_heap hx9 3
        have f4 : wc.frozen? ⟨gb, 4, none⟩ = false := Lib.frozen_of_heap hx9 4
        have f5 : wc.frozen? ⟨gb, 5, none⟩ = false := Lib.frozen_of_heap hx9 5
        have f6 : wc.frozen? ⟨gb, 6, none⟩ = false := Lib.frozen_of_heap hx9 6
        have f7 : wc.frozen? ⟨gb, 7, none⟩ = false := Lib.frozen_of_heap hx9 7
        have f8 : wc.frozen? ⟨gb, 8, none⟩ = false := Lib.frozen_of_heap hx9 8
        clear hcut9 hb9 ht9 k9 hx9 HRP HLG1
        go_upto_region 19 with (refine wpList_ld14 rfl _ rfl _ _ rfl HG9.out rfl ?_)
        have kl := setL_kp wc gb (.slice ao9 n9 cap9) (.int .i64 (D.room : Int)) (.bool D.fuse.isSome) (.int .i64 left9) (.bool D.dead) (.int .u64 (Q : Int)) (.bool R)
        have hb := setL HX9.out (.slice ao9 n9 cap9) (.int .i64 (D.room : Int)) (.bool D.fuse.isSome) (.int .i64 left9) (.bool D.dead) (.int .u64 (Q : Int)) (.bool R)
        obtain ⟨W9, hW9⟩ : ∃ W, W = (((((((wc.setCell ⟨gb, 2, none⟩ (.slice ao9 n9 cap9)).setCell ⟨gb, 3, none⟩ (.int .i64 (D.room : Int))).setCell ⟨gb, 4, none⟩ (.bool D.fuse.isSome)).setCell ⟨gb, 5, none⟩ (.int .i64 left9)).setCell ⟨gb, 6, none⟩ (.bool D.dead)).setCell ⟨gb, 7, none⟩ (.int .u64 (Q : Int))).setCell ⟨gb, 8, none⟩ (.bool R)) := ⟨_, rfl⟩
        rw [← hW9] at kl hb ⊢
        have HTW := Lib.hid (HT9.out.shy (shyB HX9.out) kl)
        have HLW := Lib.hid (HLG9.out.kpG kl HAP.out hlb1)
        have HXW := Lib.hid hb
        have hcw := (kl.block w.heap.size (by omega) (by simp; omega)).trans HC9.out
        have HVW := Lib.hid (HV9.out.kp kl (by simp; have := HLOW.out; omega))
        have HKW : Hid (Kp [] G w W9) := HK9.out.trans (kl.shed (B' := G) (by have := HLOW.out; simp; omega) (by omega))
        have hsw : wc.heap.size ≤ W9.heap.size := kl.size
        have hbw := hb
        clear kl hb hW9 b0 b1 b2 b3 b4 b5 b6 b7 b8 f2 f3 f4 f5 f6 f7 f8
        obtain ⟨b0, b1, b2, b3, b4, b5, b6, b7, b8⟩ := boxB hbw
        obtain ⟨c0, c1, c2⟩ := boxF hcw
        clear hbw hcw
        have hkz : Kp [] W9.heap.size W9 W9.drew := (Kp.refl _ _ _).drew 1
        have hE1 : IntKind.i64.wrap (E : Int) = (E : Int) := IntWalk.i64_in _ ⟨by omega, by omega⟩
        have hE2 : wrap64 (E : Int) = (E : Int) := by rw [← i64_w]; exact hE1
        refine start_ (n := 11) (S := fun w' => w'.cell? ⟨gb, 1, none⟩ = some (.pointer (some ⟨lb, 0, none⟩)) ∧ w'.cell? ⟨w.heap.size, 2, none⟩ = some (.slice bo bl bc) ∧ Kp [] W9.heap.size W9 w') (ds := [6]) #[false, false, false, false, false, false, false, false, false, false, false] (by kernel_rfl) rfl rfl ⟨(by exact b1), (by exact c2), hkz⟩ (fun hHeld => ?_)
        refine pure_ (i := 0) (N := some 84) (v := ?_) (a' := ?_) #[true, false, false, false, false, false, false, false, false, false, false] rfl rfl (by kernel_rfl) (fun _ _ _ h => h) (Or.inl ⟨by rfl, ?_⟩) ?_ ?_
        rotate_left
        · intro w'
          go_simp
          with_reducible rfl
        rotate_left
        · simp only [Act.put, List.setIfInBounds_toArray, List.set_cons_zero, List.set_cons_succ, i64_w, i32_w]
          rfl
        refine pure_ (i := 1) (N := some 85) (v := ?_) (a' := ?_) #[true, true, false, false, false, false, false, false, false, false, false] rfl rfl (by kernel_rfl) (fun _ _ _ h => h) (Or.inl ⟨by rfl, ?_⟩) ?_ ?_
        rotate_left
        · intro w'
          go_simp
          with_reducible rfl
        rotate_left
        · simp only [Act.put, List.setIfInBounds_toArray, List.set_cons_zero, List.set_cons_succ, i64_w, i32_w]
          rfl
        refine pure_ (i := 2) (N := some 86) (v := ?_) (a' := ?_) #[true, true, true, false, false, false, false, false, false, false, false] rfl rfl (by kernel_rfl) (fun _ _ _ h => h) (Or.inl ⟨by rfl, ?_⟩) ?_ ?_
        rotate_left
        · intro w'
          go_simp
          with_reducible rfl
        rotate_left
        · simp only [Act.put, List.setIfInBounds_toArray, List.set_cons_zero, List.set_cons_succ, i64_w, i32_w]
          rfl
        refine pure_ (i := 4) (N := some 88) (v := ?_) (a' := ?_) #[true, true, true, false, true, false, false, false, false, false, false] rfl rfl (by kernel_rfl) (fun _ _ _ h => h) (Or.inl ⟨by rfl, ?_⟩) ?_ ?_
        rotate_left
        · intro w'
          go_simp
          with_reducible rfl
        rotate_left
        · simp only [Act.put, List.setIfInBounds_toArray, List.set_cons_zero, List.set_cons_succ, i64_w, i32_w]
          rfl
        refine pure_ (i := 8) (N := some 92) (v := ?_) (a' := ?_) #[true, true, true, false, true, false, false, false, true, false, false] rfl rfl (by kernel_rfl) (fun _ _ _ h => h) (Or.inl ⟨by rfl, ?_⟩) ?_ ?_
        rotate_left
        · intro w'
          go_simp
          with_reducible rfl
        rotate_left
        · simp only [Act.put, List.setIfInBounds_toArray, List.set_cons_zero, List.set_cons_succ, i64_w, i32_w]
          rfl
        refine take_ (i := 3) (N := some 87) (v := ?_) (a' := ?_) #[true, true, true, true, true, false, false, false, true, false, false] rfl rfl (by kernel_rfl) (fun _ _ _ h => h) (Or.inl ⟨by rfl, ?_⟩) hHeld ?_ ?_
        rotate_left
        · rintro w' ⟨s0, s1, s2⟩
          go_simp
          with_reducible rfl
        rotate_left
        · simp only [Act.put, List.setIfInBounds_toArray, List.set_cons_zero, List.set_cons_succ, i64_w, i32_w]
          rfl
        refine take_ (i := 5) (N := some 89) (v := ?_) (a' := ?_) #[true, true, true, true, true, true, false, false, true, false, false] rfl rfl (by kernel_rfl) (fun _ _ _ h => h) (Or.inl ⟨by rfl, ?_⟩) hHeld ?_ ?_
        rotate_left
        · rintro w' ⟨s0, s1, s2⟩
          go_simp
          with_reducible rfl
        rotate_left
        · simp only [Act.put, List.setIfInBounds_toArray, List.set_cons_zero, List.set_cons_succ, i64_w, i32_w]
          rfl
        refine last_ (i := 6) (N := some 90) #[true, true, true, true, true, true, true, false, true, false, false] rfl rfl (by kernel_rfl) (by decide) (fun K hK => ?_)
        refine goes_ Tryz.func24 (by kernel_rfl) rfl #[.pointer (some ⟨lb, 0, none⟩), .slice bo bl bc] (by rfl) rfl rfl (by simp only [List.map_toArray, List.map_cons, List.map_nil]; rfl) ?_
        with_reducible refine (wPack _ (HLW.out.kp hHeld.2.2) _ r.b (HVW.out.kp hHeld.2.2 (by simp)) (fun k hk => HFR.out k (by have := hHeld.2.2.size; omega))).mono ?_
        rintro e wz ⟨rfl, hlz, kz⟩
        refine ⟨_, rfl, ?_⟩
        rw [← HLE.out.1] at hlz
        rw [← HLE.out.2]
        have HLZ := Lib.hid hlz
        have KZ : Hid (Kp [p, mb, lb] W9.heap.size W9 wz) := Lib.hid ((hHeld.2.2.mono (fun _ h => absurd h (by simp)) (Nat.le_refl _)).trans (kz.mono (by simp) hHeld.2.2.size))
        clear hlz kz
        refine hK.out _ _ ?_
        clear hK K
        refine norm_ (a' := ?_) ?_ ?_
        rotate_left
        · show Act.put _ (some 90) _ = _
          simp only [Act.put, List.setIfInBounds_toArray, List.set_cons_zero, List.set_cons_succ, i64_w, i32_w]
          rfl
        refine pure_ (i := 7) (N := some 91) (v := ?_) (a' := ?_) #[true, true, true, true, true, true, true, true, true, false, false] rfl rfl (by kernel_rfl) (fun _ _ _ h => h) (Or.inl ⟨by rfl, ?_⟩) ?_ ?_
        rotate_left
        · intro w'
          go_simp
          with_reducible rfl
        rotate_left
        · simp only [Act.put, List.setIfInBounds_toArray, List.set_cons_zero, List.set_cons_succ, i64_w, i32_w]
          rfl
        refine pure_ (i := 9) (N := some 93) (v := ?_) (a' := ?_) #[true, true, true, true, true, true, true, true, true, true, false] rfl rfl (by kernel_rfl) (fun _ _ _ h => h) (Or.inl ⟨by rfl, ?_⟩) ?_ ?_
        rotate_left
        · intro w'
          go_simp
          with_reducible rfl
        rotate_left
        · simp only [Act.put, List.setIfInBounds_toArray, List.set_cons_zero, List.set_cons_succ, i64_w, i32_w]
          rfl
        refine pure_ (i := 10) (N := some 4) (v := ?_) (a' := ?_) #[true, true, true, true, true, true, true, true, true, true, true] rfl rfl (by kernel_rfl) (fun _ _ _ h => h) (Or.inl ⟨by rfl, ?_⟩) ?_ ?_
        rotate_left
        · intro w'
          go_simp
          with_reducible rfl
        rotate_left
        · simp only [Act.put, List.setIfInBounds_toArray, List.set_cons_zero, List.set_cons_succ, i64_w, i32_w]
          rfl
        refine done_ (by kernel_rfl) ?_

        go_wp2
        go_ret
        refine ⟨by simp, ⟨A, _, ⟨D, Q, R⟩, ⟨⟨HLZ.out.2.1, ⟨ao9, n9, cap9, left9, (KZ.out.block gb (by omega) (by simp; have := HAP.out; omega)).trans HXW.out, HTW.out.shy (shyL HLW.out) KZ.out⟩, HAP.out⟩, fun a ha => ⟨lb, (by injection ha with ha; exact ha.symm), HLZ.out, hlb1, hlb2⟩, fun k hk => HFR.out k (by have := KZ.out.size; omega), HLOW.out, hroomD⟩⟩, HKW.out.trans (KZ.out.shed (B' := G) (by have := HLOW.out; simp; omega) (by omega))⟩
  · skip
    have y0 : ((k16 : Int) == 0) = false := by simp; omega
    have y1 : ((k16 : Int) == 1) = false := by simp; omega
    have y2 : ((k16 : Int) == 2) = false := by simp; omega
    have y3 : ((k16 : Int) == 3) = false := by simp; omega
    have y4 : ((k16 : Int) == 4) = false := by simp; omega
    cases lp with
    | none => exact absurd rfl (hlp (by omega))
    | some a =>
      obtain ⟨lb, rfl, hlg, hlb1, hlb2⟩ := HLO.out a rfl
      have HLG1 := Lib.hid (hlg.kp HKD.out)
      have hlbl : lb < W1.heap.size := HLG1.out.lt
      have hlbp : lb ≠ p ∧ lb ≠ mb := ⟨hlg.2.2.1, hlg.2.2.2.1⟩
      have hq64 : q < 18446744073709551616 := hlg.2.2.2.2.2
      obtain ⟨⟨D, Q, R⟩, hL⟩ : ∃ L, L = ((Lg.mk d q br).append r.b).1 := ⟨_, rfl⟩
      obtain ⟨E, hE⟩ : ∃ E, E = ((Lg.mk d q br).append r.b).2 := ⟨_, rfl⟩
      have HLE : Hid ((⟨D, Q, R⟩ : Lg) = ((Lg.mk d q br).append r.b).1 ∧ E = ((Lg.mk d q br).append r.b).2) := ⟨hL, hE⟩
      have hE22 : E ≤ 22 := by rw [hE]; exact lg_append_err _ _
      have hroomD : D.room ≤ 3000 := by have h := lg_append_room ⟨d, q, br⟩ r.b; rw [← hL] at h; simp only at h; omega
      have HRP : Hid (∀ W, Kp [] W1.heap.size W1 W → Calls Tryz.prog 25 #[.agg #[.slice ao n cap, .int .i64 (d.room : Int), .bool d.fuse.isSome, .int .i64 left, .bool d.dead, .int .u64 (q : Int), .bool br], .slice bo bl bc] W fun e w' => ∃ ao9 n9 cap9 left9, e = .returned (.tuple #[.agg #[.slice ao9 n9 cap9, .int .i64 (D.room : Int), .bool D.fuse.isSome, .int .i64 left9, .bool D.dead, .int .u64 (Q : Int), .bool R], .int .i64 (E : Int)]) ∧ IsT w' (.agg #[.slice ao9 n9 cap9, .int .i64 (D.room : Int), .bool D.fuse.isSome, .int .i64 left9, .bool D.dead]) D ∧ Kp [] W.heap.size W w') := fun W hK => by
        refine (r14Append ⟨d, q, br⟩ _ r.b _ W ⟨ao, n, cap, left, rfl, HT1.out.kp hK, hq64⟩ (HV.out.kp hK (by simp))).mono ?_
        rintro e w9 ⟨v9, rfl, h9, k9⟩
        rw [← HLE.out.1, ← HLE.out.2] at *
        obtain ⟨ao9, n9, cap9, left9, rfl, h9, -⟩ := h9
        exact ⟨ao9, n9, cap9, left9, rfl, h9, k9⟩
      clear hL hE hlg
      go_upto_region 20 with fail
      go_cut [8, 9] (fun pg e1 wx => ∃ (g : Nat), pg = .pointer (some ⟨g, 0, none⟩) ∧ e1 = .int .i64 (E : Int) ∧ Hid (∃ ao9 n9 cap9 left9, wx.heap[g]? = some (.cells #[.slice ao9 n9 cap9, .int .i64 (D.room : Int), .bool D.fuse.isSome, .int .i64 left9, .bool D.dead, .int .u64 (Q : Int), .bool R] 35 (0, 0)) ∧ IsT wx (.agg #[.slice ao9 n9 cap9, .int .i64 (D.room : Int), .bool D.fuse.isSome, .int .i64 left9, .bool D.dead]) D ∧ Kp [] W1.heap.size W1 wx))
      case first =>
        have hkz : Kp [] W1.heap.size W1 W1.drew := (Kp.refl _ _ _).drew 1
        refine start_ (n := 13) (S := fun w' => w'.cell? ⟨gb, 2, none⟩ = some (.slice ao n cap) ∧ w'.cell? ⟨gb, 3, none⟩ = some (.int .i64 (d.room : Int)) ∧ w'.cell? ⟨gb, 4, none⟩ = some (.bool d.fuse.isSome) ∧ w'.cell? ⟨gb, 5, none⟩ = some (.int .i64 left) ∧ w'.cell? ⟨gb, 6, none⟩ = some (.bool d.dead) ∧ w'.cell? ⟨gb, 7, none⟩ = some (.int .u64 (q : Int)) ∧ w'.cell? ⟨gb, 8, none⟩ = some (.bool br) ∧ w'.cell? ⟨w.heap.size, 2, none⟩ = some (.slice bo bl bc) ∧ Kp [] W1.heap.size W1 w') (ds := [11]) #[false, false, false, false, false, false, false, false, false, false, false, false, false] (by kernel_rfl) rfl rfl ⟨(by exact b2), (by exact b3), (by exact b4), (by exact b5), (by exact b6), (by exact b7), (by exact b8), (by exact c2), hkz⟩ (fun hHeld => ?_)
        refine pure_ (i := 0) (N := some 95) (v := ?_) (a' := ?_) #[true, false, false, false, false, false, false, false, false, false, false, false, false] rfl rfl (by kernel_rfl) (fun _ _ _ h => h) (Or.inl ⟨by rfl, ?_⟩) ?_ ?_
        rotate_left
        · intro w'
          go_simp
          with_reducible rfl
        rotate_left
        · simp only [Act.put, List.setIfInBounds_toArray, List.set_cons_zero, List.set_cons_succ, i64_w, i32_w]
          rfl
        refine pure_ (i := 1) (N := some 96) (v := ?_) (a' := ?_) #[true, true, false, false, false, false, false, false, false, false, false, false, false] rfl rfl (by kernel_rfl) (fun _ _ _ h => h) (Or.inl ⟨by rfl, ?_⟩) ?_ ?_
        rotate_left
        · intro w'
          go_simp
          with_reducible rfl
        rotate_left
        · simp only [Act.put, List.setIfInBounds_toArray, List.set_cons_zero, List.set_cons_succ, i64_w, i32_w]
          rfl
        refine pure_ (i := 2) (N := some 97) (v := ?_) (a' := ?_) #[true, true, true, false, false, false, false, false, false, false, false, false, false] rfl rfl (by kernel_rfl) (fun _ _ _ h => h) (Or.inl ⟨by rfl, ?_⟩) ?_ ?_
        rotate_left
        · intro w'
          go_simp
          with_reducible rfl
        rotate_left
        · simp only [Act.put, List.setIfInBounds_toArray, List.set_cons_zero, List.set_cons_succ, i64_w, i32_w]
          rfl
        refine pure_ (i := 4) (N := some 99) (v := ?_) (a' := ?_) #[true, true, true, false, true, false, false, false, false, false, false, false, false] rfl rfl (by kernel_rfl) (fun _ _ _ h => h) (Or.inl ⟨by rfl, ?_⟩) ?_ ?_
        rotate_left
        · intro w'
          go_simp
          with_reducible rfl
        rotate_left
        · simp only [Act.put, List.setIfInBounds_toArray, List.set_cons_zero, List.set_cons_succ, i64_w, i32_w]
          rfl
        refine take_ (i := 3) (N := some 98) (v := ?_) (a' := ?_) #[true, true, true, true, true, false, false, false, false, false, false, false, false] rfl rfl (by kernel_rfl) (fun _ _ _ h => h) (Or.inl ⟨by rfl, ?_⟩) hHeld ?_ ?_
        rotate_left
        · rintro w' ⟨s0, s1, s2, s3, s4, s5, s6, s7, s8⟩
          go_simp
          with_reducible rfl
        rotate_left
        · simp only [Act.put, List.setIfInBounds_toArray, List.set_cons_zero, List.set_cons_succ, i64_w, i32_w]
          rfl
        refine take_ (i := 5) (N := some 100) (v := ?_) (a' := ?_) #[true, true, true, true, true, true, false, false, false, false, false, false, false] rfl rfl (by kernel_rfl) (fun _ _ _ h => h) (Or.inl ⟨by rfl, ?_⟩) hHeld ?_ ?_
        rotate_left
        · rintro w' ⟨s0, s1, s2, s3, s4, s5, s6, s7, s8⟩
          go_simp
          with_reducible rfl
        rotate_left
        · simp only [Act.put, List.setIfInBounds_toArray, List.set_cons_zero, List.set_cons_succ, i64_w, i32_w]
          rfl
        refine join_ (σ := Nat × Option Addr × Nat × Nat × Int) 2 #[true, true, true, true, true, true, true, true, true, true, true, false, false] (fun s => [(101, .tuple #[.agg #[.slice s.2.1 s.2.2.1 s.2.2.2.1, .int .i64 (D.room : Int), .bool D.fuse.isSome, .int .i64 s.2.2.2.2, .bool D.dead, .int .u64 (Q : Int), .bool R], .int .i64 (E : Int)]), (94, .tuple #[.agg #[.slice s.2.1 s.2.2.1 s.2.2.2.1, .int .i64 (D.room : Int), .bool D.fuse.isSome, .int .i64 s.2.2.2.2, .bool D.dead, .int .u64 (Q : Int), .bool R], .int .i64 (E : Int)]), (102, .agg #[.slice s.2.1 s.2.2.1 s.2.2.2.1, .int .i64 (D.room : Int), .bool D.fuse.isSome, .int .i64 s.2.2.2.2, .bool D.dead, .int .u64 (Q : Int), .bool R]), (103, .int .i64 (E : Int)), (8, .pointer (some ⟨s.1, 0, none⟩))]) (fun s w' => w'.heap[s.1]? = some (.cells #[.slice none 0 0, .int .i64 0, .bool false, .int .i64 0, .bool false, .int .u64 0, .bool false] 35) ∧ IsT w' (.agg #[.slice s.2.1 s.2.2.1 s.2.2.2.1, .int .i64 (D.room : Int), .bool D.fuse.isSome, .int .i64 s.2.2.2.2, .bool D.dead]) D ∧ Kp [] W1.heap.size W1 w' ∧ W1.heap.size ≤ s.1) ?_ ?_
        rotate_left
        · intro hCont
          refine two_ (i := 6) (j := 10) (Ni := some 101) (Nj := some 8) #[true, true, true, true, true, true, true, false, false, false, false, false, false] #[true, true, true, true, true, true, false, false, false, false, true, false, false] rfl rfl rfl rfl (by kernel_rfl) (by decide) (by decide) (fun K hK => ?_) (fun K hK => ?_)
          · skip
            refine goes_ Tryz.func25 (by kernel_rfl) rfl #[.agg #[.slice ao n cap, .int .i64 (d.room : Int), .bool d.fuse.isSome, .int .i64 left, .bool d.dead, .int .u64 (q : Int), .bool br], .slice bo bl bc] (by rfl) rfl rfl (by simp only [List.map_toArray, List.map_cons, List.map_nil]; rfl) ?_
            with_reducible refine (HRP.out _ hHeld.2.2.2.2.2.2.2.2).mono ?_
            rintro e w9 ⟨ao9, n9, cap9, left9, rfl, h9, k9⟩
            refine ⟨_, rfl, ?_⟩
            have HT9 := Lib.hid h9
            have K9 := Lib.hid (hHeld.2.2.2.2.2.2.2.2.trans (k9.mono (by simp) hHeld.2.2.2.2.2.2.2.2.size))
            clear h9 k9
            refine hK.out _ _ ⟨((K9.out.cell (p := ⟨gb, 2, none⟩) hgl (by simp)).trans b2), ((K9.out.cell (p := ⟨gb, 3, none⟩) hgl (by simp)).trans b3), ((K9.out.cell (p := ⟨gb, 4, none⟩) hgl (by simp)).trans b4), ((K9.out.cell (p := ⟨gb, 5, none⟩) hgl (by simp)).trans b5), ((K9.out.cell (p := ⟨gb, 6, none⟩) hgl (by simp)).trans b6), ((K9.out.cell (p := ⟨gb, 7, none⟩) hgl (by simp)).trans b7), ((K9.out.cell (p := ⟨gb, 8, none⟩) hgl (by simp)).trans b8), ((K9.out.cell (p := ⟨w.heap.size, 2, none⟩) hdl (by simp)).trans c2), K9.out⟩ (fun hHeld => ?_)
            clear hK K
            refine norm_ (a' := ?_) ?_ ?_
            rotate_left
            · show Act.put _ (some 101) _ = _
              simp only [Act.put, List.setIfInBounds_toArray, List.set_cons_zero, List.set_cons_succ, i64_w, i32_w]
              rfl
            refine pure_ (i := 7) (N := some 94) (v := ?_) (a' := ?_) #[true, true, true, true, true, true, true, true, false, false, false, false, false] rfl rfl (by kernel_rfl) (fun _ _ _ h => h) (Or.inl ⟨by rfl, ?_⟩) ?_ ?_
            rotate_left
            · intro w'
              go_simp
              with_reducible rfl
            rotate_left
            · simp only [Act.put, List.setIfInBounds_toArray, List.set_cons_zero, List.set_cons_succ, i64_w, i32_w]
              rfl
            refine pure_ (i := 8) (N := some 102) (v := ?_) (a' := ?_) #[true, true, true, true, true, true, true, true, true, false, false, false, false] rfl rfl (by kernel_rfl) (fun _ _ _ h => h) (Or.inl ⟨by rfl, ?_⟩) ?_ ?_
            rotate_left
            · intro w'
              go_simp
              with_reducible rfl
            rotate_left
            · simp only [Act.put, List.setIfInBounds_toArray, List.set_cons_zero, List.set_cons_succ, i64_w, i32_w]
              rfl
            refine pure_ (i := 9) (N := some 103) (v := ?_) (a' := ?_) #[true, true, true, true, true, true, true, true, true, true, false, false, false] rfl rfl (by kernel_rfl) (fun _ _ _ h => h) (Or.inl ⟨by rfl, ?_⟩) ?_ ?_
            rotate_left
            · intro w'
              go_simp
              with_reducible rfl
            rotate_left
            · simp only [Act.put, List.setIfInBounds_toArray, List.set_cons_zero, List.set_cons_succ, i64_w, i32_w]
              rfl
            refine one_ (i := 10) (N := some 8) #[true, true, true, true, true, true, true, true, true, true, true, false, false] rfl rfl (by kernel_rfl) (by decide) (fun K hK => ?_)
            refine value_ (w1 := ?_) (v := ?_) (by rfl) rfl ?_ ?_
            rotate_left 2
            · go_simp
              constructor
              · rfl
              · rfl
            have KA := Lib.hid (K9.out.alloc K9.out.size (.cells #[.slice none 0 0, .int .i64 0, .bool false, .int .i64 0, .bool false, .int .u64 0, .bool false] 35))
            have HZB := Lib.hid (World.alloc_heap_new w9 (.cells #[.slice none 0 0, .int .i64 0, .bool false, .int .i64 0, .bool false, .int .u64 0, .bool false] 35))
            refine hK.out _ _ ⟨((KA.out.cell (p := ⟨gb, 2, none⟩) hgl (by simp)).trans b2), ((KA.out.cell (p := ⟨gb, 3, none⟩) hgl (by simp)).trans b3), ((KA.out.cell (p := ⟨gb, 4, none⟩) hgl (by simp)).trans b4), ((KA.out.cell (p := ⟨gb, 5, none⟩) hgl (by simp)).trans b5), ((KA.out.cell (p := ⟨gb, 6, none⟩) hgl (by simp)).trans b6), ((KA.out.cell (p := ⟨gb, 7, none⟩) hgl (by simp)).trans b7), ((KA.out.cell (p := ⟨gb, 8, none⟩) hgl (by simp)).trans b8), ((KA.out.cell (p := ⟨w.heap.size, 2, none⟩) hdl (by simp)).trans c2), KA.out⟩ (fun hHeld => ?_)
            clear hK K
            refine norm_ (a' := ?_) ?_ ?_
            rotate_left
            · show Act.put _ (some 8) _ = _
              simp only [Act.put, List.setIfInBounds_toArray, List.set_cons_zero, List.set_cons_succ, i64_w, i32_w]
              rfl
            exact norm_ (by simp only [putAll, Act.put, List.setIfInBounds_toArray, List.set_cons_zero, List.set_cons_succ]) (hCont ⟨w9.heap.size, ao9, n9, cap9, left9⟩ _ ⟨HZB.out, HT9.out.kp (kp1 w9 _), KA.out, K9.out.size⟩)
          · skip
            refine value_ (w1 := ?_) (v := ?_) (by rfl) rfl ?_ ?_
            rotate_left 2
            · go_simp
              constructor
              · rfl
              · rfl
            have KA := Lib.hid ((kp1 W1 (.cells #[.slice none 0 0, .int .i64 0, .bool false, .int .i64 0, .bool false, .int .u64 0, .bool false] 35)).drew 1)
            have HZB := Lib.hid (World.alloc_heap_new W1 (.cells #[.slice none 0 0, .int .i64 0, .bool false, .int .i64 0, .bool false, .int .u64 0, .bool false] 35))
            refine hK.out _ _ ⟨((KA.out.cell (p := ⟨gb, 2, none⟩) hgl (by simp)).trans b2), ((KA.out.cell (p := ⟨gb, 3, none⟩) hgl (by simp)).trans b3), ((KA.out.cell (p := ⟨gb, 4, none⟩) hgl (by simp)).trans b4), ((KA.out.cell (p := ⟨gb, 5, none⟩) hgl (by simp)).trans b5), ((KA.out.cell (p := ⟨gb, 6, none⟩) hgl (by simp)).trans b6), ((KA.out.cell (p := ⟨gb, 7, none⟩) hgl (by simp)).trans b7), ((KA.out.cell (p := ⟨gb, 8, none⟩) hgl (by simp)).trans b8), ((KA.out.cell (p := ⟨w.heap.size, 2, none⟩) hdl (by simp)).trans c2), KA.out⟩ (fun hHeld => ?_)
            clear hK K
            refine norm_ (a' := ?_) ?_ ?_
            rotate_left
            · show Act.put _ (some 8) _ = _
              simp only [Act.put, List.setIfInBounds_toArray, List.set_cons_zero, List.set_cons_succ, i64_w, i32_w]
              rfl
            refine one_ (i := 6) (N := some 101) #[true, true, true, true, true, true, true, false, false, false, true, false, false] rfl rfl (by kernel_rfl) (by decide) (fun K hK => ?_)
            refine goes_ Tryz.func25 (by kernel_rfl) rfl #[.agg #[.slice ao n cap, .int .i64 (d.room : Int), .bool d.fuse.isSome, .int .i64 left, .bool d.dead, .int .u64 (q : Int), .bool br], .slice bo bl bc] (by rfl) rfl rfl (by simp only [List.map_toArray, List.map_cons, List.map_nil]; rfl) ?_
            with_reducible refine (HRP.out _ hHeld.2.2.2.2.2.2.2.2).mono ?_
            rintro e w9 ⟨ao9, n9, cap9, left9, rfl, h9, k9⟩
            refine ⟨_, rfl, ?_⟩
            have HT9 := Lib.hid h9
            have K9 := Lib.hid (hHeld.2.2.2.2.2.2.2.2.trans (k9.mono (by simp) hHeld.2.2.2.2.2.2.2.2.size))
            have HZB := Lib.hid ((k9.block W1.heap.size (Array.getElem?_eq_some_iff.1 HZB.out).1 (by simp)).trans HZB.out)
            clear h9 k9
            refine hK.out _ _ ⟨((K9.out.cell (p := ⟨gb, 2, none⟩) hgl (by simp)).trans b2), ((K9.out.cell (p := ⟨gb, 3, none⟩) hgl (by simp)).trans b3), ((K9.out.cell (p := ⟨gb, 4, none⟩) hgl (by simp)).trans b4), ((K9.out.cell (p := ⟨gb, 5, none⟩) hgl (by simp)).trans b5), ((K9.out.cell (p := ⟨gb, 6, none⟩) hgl (by simp)).trans b6), ((K9.out.cell (p := ⟨gb, 7, none⟩) hgl (by simp)).trans b7), ((K9.out.cell (p := ⟨gb, 8, none⟩) hgl (by simp)).trans b8), ((K9.out.cell (p := ⟨w.heap.size, 2, none⟩) hdl (by simp)).trans c2), K9.out⟩ (fun hHeld => ?_)
            clear hK K
            refine norm_ (a' := ?_) ?_ ?_
            rotate_left
            · show Act.put _ (some 101) _ = _
              simp only [Act.put, List.setIfInBounds_toArray, List.set_cons_zero, List.set_cons_succ, i64_w, i32_w]
              rfl
            refine pure_ (i := 7) (N := some 94) (v := ?_) (a' := ?_) #[true, true, true, true, true, true, true, true, false, false, true, false, false] rfl rfl (by kernel_rfl) (fun _ _ _ h => h) (Or.inl ⟨by rfl, ?_⟩) ?_ ?_
            rotate_left
            · intro w'
              go_simp
              with_reducible rfl
            rotate_left
            · simp only [Act.put, List.setIfInBounds_toArray, List.set_cons_zero, List.set_cons_succ, i64_w, i32_w]
              rfl
            refine pure_ (i := 8) (N := some 102) (v := ?_) (a' := ?_) #[true, true, true, true, true, true, true, true, true, false, true, false, false] rfl rfl (by kernel_rfl) (fun _ _ _ h => h) (Or.inl ⟨by rfl, ?_⟩) ?_ ?_
            rotate_left
            · intro w'
              go_simp
              with_reducible rfl
            rotate_left
            · simp only [Act.put, List.setIfInBounds_toArray, List.set_cons_zero, List.set_cons_succ, i64_w, i32_w]
              rfl
            refine pure_ (i := 9) (N := some 103) (v := ?_) (a' := ?_) #[true, true, true, true, true, true, true, true, true, true, true, false, false] rfl rfl (by kernel_rfl) (fun _ _ _ h => h) (Or.inl ⟨by rfl, ?_⟩) ?_ ?_
            rotate_left
            · intro w'
              go_simp
              with_reducible rfl
            rotate_left
            · simp only [Act.put, List.setIfInBounds_toArray, List.set_cons_zero, List.set_cons_succ, i64_w, i32_w]
              rfl
            exact norm_ (by simp only [putAll, Act.put, List.setIfInBounds_toArray, List.set_cons_zero, List.set_cons_succ]) (hCont ⟨W1.heap.size, ao9, n9, cap9, left9⟩ _ ⟨HZB.out, HT9.out, K9.out, Nat.le_refl _⟩)
        rintro ⟨g9, ao9, n9, cap9, left9⟩ w9 ⟨hzb, h9, k9, hg9⟩
        simp only at hzb h9 hg9
        have HT9 := Lib.hid h9
        have K9 := Lib.hid k9
        have HZB := Lib.hid hzb
        obtain ⟨y0, y1, y2, y3, y4, y5, y6⟩ := boxA hzb
        have f0 : w9.frozen? ⟨g9, 0, none⟩ = false := Lib.frozen_of_heap hzb 0
        have f1 : w9.frozen? ⟨g9, 1, none⟩ = false := Lib.frozen_of_heap hzb 1
        have f2 : w9.frozen? ⟨g9, 2, none⟩ = false := Lib.frozen_of_heap hzb 2
        have f3 : w9.frozen? ⟨g9, 3, none⟩ = false := Lib.frozen_of_heap hzb 3
        have f4 : w9.frozen? ⟨g9, 4, none⟩ = false := Lib.frozen_of_heap hzb 4
        have f5 : w9.frozen? ⟨g9, 5, none⟩ = false := Lib.frozen_of_heap hzb 5
        have f6 : w9.frozen? ⟨g9, 6, none⟩ = false := Lib.frozen_of_heap hzb 6
        clear hzb h9 k9
        have hHeld : w9.cell? ⟨gb, 2, none⟩ = some (.slice ao n cap) ∧ w9.cell? ⟨gb, 3, none⟩ = some (.int .i64 (d.room : Int)) ∧ w9.cell? ⟨gb, 4, none⟩ = some (.bool d.fuse.isSome) ∧ w9.cell? ⟨gb, 5, none⟩ = some (.int .i64 left) ∧ w9.cell? ⟨gb, 6, none⟩ = some (.bool d.dead) ∧ w9.cell? ⟨gb, 7, none⟩ = some (.int .u64 (q : Int)) ∧ w9.cell? ⟨gb, 8, none⟩ = some (.bool br) ∧ w9.cell? ⟨w.heap.size, 2, none⟩ = some (.slice bo bl bc) ∧ Kp [] W1.heap.size W1 w9 := ⟨((K9.out.cell (p := ⟨gb, 2, none⟩) hgl (by simp)).trans b2), ((K9.out.cell (p := ⟨gb, 3, none⟩) hgl (by simp)).trans b3), ((K9.out.cell (p := ⟨gb, 4, none⟩) hgl (by simp)).trans b4), ((K9.out.cell (p := ⟨gb, 5, none⟩) hgl (by simp)).trans b5), ((K9.out.cell (p := ⟨gb, 6, none⟩) hgl (by simp)).trans b6), ((K9.out.cell (p := ⟨gb, 7, none⟩) hgl (by simp)).trans b7), ((K9.out.cell (p := ⟨gb, 8, none⟩) hgl (by simp)).trans b8), ((K9.out.cell (p := ⟨w.heap.size, 2, none⟩) hdl (by simp)).trans c2), K9.out⟩
        refine norm_ (a' := ?_) ?_ ?_
        rotate_left
        · simp only [putAll, Act.put, List.setIfInBounds_toArray, List.set_cons_zero, List.set_cons_succ]
          rfl
        refine last_ (i := 11) (N := none) #[true, true, true, true, true, true, true, true, true, true, true, true, false] rfl rfl (by kernel_rfl) (by decide) (fun K hK => ?_)
        refine skip_ (w1 := ?_) (by rfl) rfl ?_ ?_
        rotate_left
        · go_simp
          rfl
        refine hK.out _ _ ?_
        clear hK K
        refine pure_ (i := 12) (N := some 9) (v := ?_) (a' := ?_) #[true, true, true, true, true, true, true, true, true, true, true, true, true] rfl rfl (by kernel_rfl) (fun _ _ _ h => h) (Or.inl ⟨by rfl, ?_⟩) ?_ ?_
        rotate_left
        · intro w'
          go_simp
          with_reducible rfl
        rotate_left
        · simp only [Act.put, List.setIfInBounds_toArray, List.set_cons_zero, List.set_cons_succ, i64_w, i32_w]
          rfl
        refine done_ (by kernel_rfl) ?_

        go_wp2
        go_meet
        have hzb := HZB.out
        have kl := set7b_kp w9 g9 (.slice ao9 n9 cap9) (.int .i64 (D.room : Int)) (.bool D.fuse.isSome) (.int .i64 left9) (.bool D.dead) (.int .u64 (Q : Int)) (.bool R)
        have hb := set7b hzb (.slice ao9 n9 cap9) (.int .i64 (D.room : Int)) (.bool D.fuse.isSome) (.int .i64 left9) (.bool D.dead) (.int .u64 (Q : Int)) (.bool R)
        have ht := HT9.out.shun hzb (by decide) noU8_0 kl
        have k2 := K9.out.trans (kl.shed (B' := W1.heap.size) (by simp; omega) K9.out.size)
        exact ⟨_, rfl, rfl, ao9, n9, cap9, left9, hb, ht, k2⟩
      case rest =>
        obtain ⟨g9, rfl, rfl, hcut9⟩ := hcut
        obtain ⟨ao9, n9, cap9, left9, hb9, ht9, k9⟩ := hcut9.out
        have hx9 := (k9.block gb hgl (by simp)).trans HBX.out
        have HG9 := Lib.hid hb9
        have HT9 := Lib.hid ht9
        have HX9 := Lib.hid hx9
        have HLG9 := Lib.hid (HLG1.out.kp k9)
        have HC9 := Lib.hid ((k9.block w.heap.size hdl (by simp)).trans HDE.out)
        have HV9 := Lib.hid (HV.out.kp k9 (by simp))
        have HK9 : Hid (Kp [] G w wc) := (HKD.out.mono (by simp) hG).trans (k9.mono (by simp) (by omega))
        have hs9 : W1.heap.size ≤ wc.heap.size := k9.size
        clear b0 b1 b2 b3 b4 b5 b6 b7 b8 c0 c1 c2
        obtain ⟨b0, b1, b2, b3, b4, b5, b6, b7, b8⟩ := boxB hx9
        have f2 : wc.frozen? ⟨gb, 2, none⟩ = false := Lib.frozen_of_heap hx9 2
        have f3 : wc.frozen? ⟨gb, 3, none⟩ = false := Lib.frozen_of_heap hx9 3
        have f4 : wc.frozen? ⟨gb, 4, none⟩ = false := Lib.frozen_of_heap hx9 4
        have f5 : wc.frozen? ⟨gb, 5, none⟩ = false := Lib.frozen_of_heap hx9 5
        have f6 : wc.frozen? ⟨gb, 6, none⟩ = false := Lib.frozen_of_heap hx9 6
        have f7 : wc.frozen? ⟨gb, 7, none⟩ = false := Lib.frozen_of_heap hx9 7
        have f8 : wc.frozen? ⟨gb, 8, none⟩ = false := Lib.frozen_of_heap hx9 8
        clear hcut9 hb9 ht9 k9 hx9 HRP HLG1
        go_upto_region 22 with (refine wpList_ld14 rfl _ rfl _ _ rfl HG9.out rfl ?_)
        have kl := setL_kp wc gb (.slice ao9 n9 cap9) (.int .i64 (D.room : Int)) (.bool D.fuse.isSome) (.int .i64 left9) (.bool D.dead) (.int .u64 (Q : Int)) (.bool R)
        have hb := setL HX9.out (.slice ao9 n9 cap9) (.int .i64 (D.room : Int)) (.bool D.fuse.isSome) (.int .i64 left9) (.bool D.dead) (.int .u64 (Q : Int)) (.bool R)
        obtain ⟨W9, hW9⟩ : ∃ W, W = (((((((wc.setCell ⟨gb, 2, none⟩ (.slice ao9 n9 cap9)).setCell ⟨gb, 3, none⟩ (.int .i64 (D.room : Int))).setCell ⟨gb, 4, none⟩ (.bool D.fuse.isSome)).setCell ⟨gb, 5, none⟩ (.int .i64 left9)).setCell ⟨gb, 6, none⟩ (.bool D.dead)).setCell ⟨gb, 7, none⟩ (.int .u64 (Q : Int))).setCell ⟨gb, 8, none⟩ (.bool R)) := ⟨_, rfl⟩
        rw [← hW9] at kl hb ⊢
        have HTW := Lib.hid (HT9.out.shy (shyB HX9.out) kl)
        have HLW := Lib.hid (HLG9.out.kpG kl HAP.out hlb1)
        have HXW := Lib.hid hb
        have hcw := (kl.block w.heap.size (by omega) (by simp; omega)).trans HC9.out
        have HVW := Lib.hid (HV9.out.kp kl (by simp; have := HLOW.out; omega))
        have HKW : Hid (Kp [] G w W9) := HK9.out.trans (kl.shed (B' := G) (by have := HLOW.out; simp; omega) (by omega))
        have hsw : wc.heap.size ≤ W9.heap.size := kl.size
        have hbw := hb
        clear kl hb hW9 b0 b1 b2 b3 b4 b5 b6 b7 b8 f2 f3 f4 f5 f6 f7 f8
        obtain ⟨b0, b1, b2, b3, b4, b5, b6, b7, b8⟩ := boxB hbw
        obtain ⟨c0, c1, c2⟩ := boxF hcw
        clear hbw hcw
        have hkz : Kp [] W9.heap.size W9 W9.drew := (Kp.refl _ _ _).drew 1
        have hE1 : IntKind.i64.wrap (E : Int) = (E : Int) := IntWalk.i64_in _ ⟨by omega, by omega⟩
        have hE2 : wrap64 (E : Int) = (E : Int) := by rw [← i64_w]; exact hE1
        refine start_ (n := 11) (S := fun w' => w'.cell? ⟨gb, 1, none⟩ = some (.pointer (some ⟨lb, 0, none⟩)) ∧ w'.cell? ⟨w.heap.size, 2, none⟩ = some (.slice bo bl bc) ∧ Kp [] W9.heap.size W9 w') (ds := [6]) #[false, false, false, false, false, false, false, false, false, false, false] (by kernel_rfl) rfl rfl ⟨(by exact b1), (by exact c2), hkz⟩ (fun hHeld => ?_)
        refine pure_ (i := 0) (N := some 108) (v := ?_) (a' := ?_) #[true, false, false, false, false, false, false, false, false, false, false] rfl rfl (by kernel_rfl) (fun _ _ _ h => h) (Or.inl ⟨by rfl, ?_⟩) ?_ ?_
        rotate_left
        · intro w'
          go_simp
          with_reducible rfl
        rotate_left
        · simp only [Act.put, List.setIfInBounds_toArray, List.set_cons_zero, List.set_cons_succ, i64_w, i32_w]
          rfl
        refine pure_ (i := 1) (N := some 109) (v := ?_) (a' := ?_) #[true, true, false, false, false, false, false, false, false, false, false] rfl rfl (by kernel_rfl) (fun _ _ _ h => h) (Or.inl ⟨by rfl, ?_⟩) ?_ ?_
        rotate_left
        · intro w'
          go_simp
          with_reducible rfl
        rotate_left
        · simp only [Act.put, List.setIfInBounds_toArray, List.set_cons_zero, List.set_cons_succ, i64_w, i32_w]
          rfl
        refine pure_ (i := 2) (N := some 110) (v := ?_) (a' := ?_) #[true, true, true, false, false, false, false, false, false, false, false] rfl rfl (by kernel_rfl) (fun _ _ _ h => h) (Or.inl ⟨by rfl, ?_⟩) ?_ ?_
        rotate_left
        · intro w'
          go_simp
          with_reducible rfl
        rotate_left
        · simp only [Act.put, List.setIfInBounds_toArray, List.set_cons_zero, List.set_cons_succ, i64_w, i32_w]
          rfl
        refine pure_ (i := 4) (N := some 112) (v := ?_) (a' := ?_) #[true, true, true, false, true, false, false, false, false, false, false] rfl rfl (by kernel_rfl) (fun _ _ _ h => h) (Or.inl ⟨by rfl, ?_⟩) ?_ ?_
        rotate_left
        · intro w'
          go_simp
          with_reducible rfl
        rotate_left
        · simp only [Act.put, List.setIfInBounds_toArray, List.set_cons_zero, List.set_cons_succ, i64_w, i32_w]
          rfl
        refine pure_ (i := 8) (N := some 116) (v := ?_) (a' := ?_) #[true, true, true, false, true, false, false, false, true, false, false] rfl rfl (by kernel_rfl) (fun _ _ _ h => h) (Or.inl ⟨by rfl, ?_⟩) ?_ ?_
        rotate_left
        · intro w'
          go_simp
          with_reducible rfl
        rotate_left
        · simp only [Act.put, List.setIfInBounds_toArray, List.set_cons_zero, List.set_cons_succ, i64_w, i32_w]
          rfl
        refine take_ (i := 3) (N := some 111) (v := ?_) (a' := ?_) #[true, true, true, true, true, false, false, false, true, false, false] rfl rfl (by kernel_rfl) (fun _ _ _ h => h) (Or.inl ⟨by rfl, ?_⟩) hHeld ?_ ?_
        rotate_left
        · rintro w' ⟨s0, s1, s2⟩
          go_simp
          with_reducible rfl
        rotate_left
        · simp only [Act.put, List.setIfInBounds_toArray, List.set_cons_zero, List.set_cons_succ, i64_w, i32_w]
          rfl
        refine take_ (i := 5) (N := some 113) (v := ?_) (a' := ?_) #[true, true, true, true, true, true, false, false, true, false, false] rfl rfl (by kernel_rfl) (fun _ _ _ h => h) (Or.inl ⟨by rfl, ?_⟩) hHeld ?_ ?_
        rotate_left
        · rintro w' ⟨s0, s1, s2⟩
          go_simp
          with_reducible rfl
        rotate_left
        · simp only [Act.put, List.setIfInBounds_toArray, List.set_cons_zero, List.set_cons_succ, i64_w, i32_w]
          rfl
        refine last_ (i := 6) (N := some 114) #[true, true, true, true, true, true, true, false, true, false, false] rfl rfl (by kernel_rfl) (by decide) (fun K hK => ?_)
        refine goes_ Tryz.func16 (by kernel_rfl) rfl #[.pointer (some ⟨lb, 0, none⟩), .slice bo bl bc] (by rfl) rfl rfl (by simp only [List.map_toArray, List.map_cons, List.map_nil]; rfl) ?_
        with_reducible refine (wAppend _ (HLW.out.kp hHeld.2.2) _ r.b (HVW.out.kp hHeld.2.2 (by simp)) (fun k hk => HFR.out k (by have := hHeld.2.2.size; omega))).mono ?_
        rintro e wz ⟨rfl, hlz, kz⟩
        refine ⟨_, rfl, ?_⟩
        rw [← HLE.out.1] at hlz
        rw [← HLE.out.2]
        have HLZ := Lib.hid hlz
        have KZ : Hid (Kp [p, mb, lb] W9.heap.size W9 wz) := Lib.hid ((hHeld.2.2.mono (fun _ h => absurd h (by simp)) (Nat.le_refl _)).trans (kz.mono (by simp) hHeld.2.2.size))
        clear hlz kz
        refine hK.out _ _ ?_
        clear hK K
        refine norm_ (a' := ?_) ?_ ?_
        rotate_left
        · show Act.put _ (some 114) _ = _
          simp only [Act.put, List.setIfInBounds_toArray, List.set_cons_zero, List.set_cons_succ, i64_w, i32_w]
          rfl
        refine pure_ (i := 7) (N := some 115) (v := ?_) (a' := ?_) #[true, true, true, true, true, true, true, true, true, false, false] rfl rfl (by kernel_rfl) (fun _ _ _ h => h) (Or.inl ⟨by rfl, ?_⟩) ?_ ?_
        rotate_left
        · intro w'
          go_simp
          with_reducible rfl
        rotate_left
        · simp only [Act.put, List.setIfInBounds_toArray, List.set_cons_zero, List.set_cons_succ, i64_w, i32_w]
          rfl
        refine pure_ (i := 9) (N := some 117) (v := ?_) (a' := ?_) #[true, true, true, true, true, true, true, true, true, true, false] rfl rfl (by kernel_rfl) (fun _ _ _ h => h) (Or.inl ⟨by rfl, ?_⟩) ?_ ?_
        rotate_left
        · intro w'
          go_simp
          with_reducible rfl
        rotate_left
        · simp only [Act.put, List.setIfInBounds_toArray, List.set_cons_zero, List.set_cons_succ, i64_w, i32_w]
          rfl
        refine pure_ (i := 10) (N := some 4) (v := ?_) (a' := ?_) #[true, true, true, true, true, true, true, true, true, true, true] rfl rfl (by kernel_rfl) (fun _ _ _ h => h) (Or.inl ⟨by rfl, ?_⟩) ?_ ?_
        rotate_left
        · intro w'
          go_simp
          with_reducible rfl
        rotate_left
        · simp only [Act.put, List.setIfInBounds_toArray, List.set_cons_zero, List.set_cons_succ, i64_w, i32_w]
          rfl
        refine done_ (by kernel_rfl) ?_

        go_wp2
        go_ret
        refine ⟨by simp, ⟨A, _, ⟨D, Q, R⟩, ⟨⟨HLZ.out.2.1, ⟨ao9, n9, cap9, left9, (KZ.out.block gb (by omega) (by simp; have := HAP.out; omega)).trans HXW.out, HTW.out.shy (shyL HLW.out) KZ.out⟩, HAP.out⟩, fun a ha => ⟨lb, (by injection ha with ha; exact ha.symm), HLZ.out, hlb1, hlb2⟩, fun k hk => HFR.out k (by have := KZ.out.size; omega), HLOW.out, hroomD⟩⟩, HKW.out.trans (KZ.out.shed (B' := G) (by have := HLOW.out; simp; omega) (by omega))⟩
end Go.Proofs.YtdabflkejhoghaaGreat.Hand
