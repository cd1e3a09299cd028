/- The reference's log: Append, walked. -/
import Derived.Below
import Derived.Deep.Draws
import Derived.Deep.AppendLies
import Derived.Maps.AppendAt
import Derived.OwnWalk
import Derived.Laws.BytesArg
import Derived.Laws.MakeOwn
import Derived.Laws.OwnMore
import Derived.Deep.OwnRows
import Derived.Tactics
import Derived.Lib.ConvBytes
import Derived.Laws.Slices
import Derived.WalkKit
import Derived.KernelRfl
import Derived.RowKit3
import Derived.Deep.LoopGhost
import Derived.Deep.QuietTactic
import Derived.BigQuiet
import Derived.WideLaws
import Derived.Deep.DeepCutAuto
import Derived.Deep.CutBlock
import Derived.Deep.RegionHeld3
import Derived.Laws.Rows
import Derived.Lib.AppendStr
import Derived.ArgAppend
import Derived.Laws.IdiomCopy
import Derived.OrdersHeld
import Derived.Laws.BitsLemmas
import Derived.RowKit
import Derived.Outline
import Derived.Maps.Own
import Derived.Maps.OwnOps
import Derived.Maps.OwnSet
import Derived.Maps.Views
import Derived.Maps.RangeWalk
import Derived.Maps.Ext
import Derived.RangeFuncOwn
import Derived.OneCell
import Derived.Deep.DeepMust
import Derived.Lib.Hide
import Derived.StillTailTactics
import Derived.Laws.AppendOwnNone
import Derived.WalkMore
import Derived.Lib.SlBytesConst
import Derived.WalkLawsBesides
import Derived.Laws.BitsAllLaws
import Derived.Test.YtdabflkejhoghaaGreatHWa
import Derived.Test.YtdabflkejhoghaaGreatWLast
import Derived.Test.YtdabflkejhoghaaGreatHTa
namespace Go.Proofs.YtdabflkejhoghaaGreat.Hand
open Go Go.RowKit Go.Maps Go.WideMaps Go.Proofs.YtdabflkejhoghaaGreat.HW Go.Proofs.YtdabflkejhoghaaGreatW.PrintLast
set_option linter.unusedVariables false
set_option linter.unusedSimpArgs false
set_option maxHeartbeats 8000000 in
set_option maxRecDepth 100000 in
/-- the reference's Append -/
theorem r14Append {A : Nat → Prop} (l : Lg) (v : Value) (b : List UInt8) (vb : Value) (w : World) (h : IsT14 w v l.d l.seq l.broken) (hb : BytesV w A vb b) :
    Calls Tryz.prog 25 #[v, vb] w fun e w' => ∃ v', e = .returned (.tuple #[v', .int .i64 ((l.append b).2 : Int)]) ∧ IsT14 w' v' (l.append b).1.d (l.append b).1.seq (l.append b).1.broken ∧ Kp [] w.heap.size w w' := by
  obtain ⟨d, q, br⟩ := l
  obtain ⟨ao, n, cap, left, rfl, ht, hq⟩ := h
  simp only at ht hq ⊢
  have HT := Lib.hid ht
  have HB := Lib.hid hb.low
  obtain ⟨bo, bc, rfl, -, -, -⟩ := id hb
  obtain ⟨bl, hbl⟩ : ∃ bl, bl = b.length := ⟨_, rfl⟩
  rw [← hbl] at HB ⊢
  have HBL := Lib.hid hbl
  have B2 := Lib.hid (BoxesA.new w (.slice ao n cap) (.int .i64 (d.room : Int)) (.bool d.fuse.isSome) (.int .i64 left) (.bool d.dead) (.int .u64 (q : Int)) (.bool br))
  clear ht hb hbl
  go_enter Tryz.func25, Tryz.ntmps25
  go_upto_region 1 with fail
  obtain ⟨W2, hW2⟩ : ∃ W2, W2 = (w.alloc (.cells #[.slice ao n cap, .int .i64 (d.room : Int), .bool d.fuse.isSome, .int .i64 left, .bool d.dead, .int .u64 (q : Int), .bool br] 35)).alloc (.cells #[.slice none 0 0, .int .i64 0, .bool false, .int .i64 0, .bool false, .int .u64 0, .bool false] 35) := ⟨_, rfl⟩
  rw [← hW2] at B2 ⊢
  clear hW2
  obtain ⟨e0, e1, e2, e3, e4, e5, e6⟩ := boxA B2.out.box
  have HT2 := Lib.hid (HT.out.kp B2.out.kp)
  cases br with
  | true =>
    have HAP : Hid ((Lg.mk d q true).append b = (⟨d, q, true⟩, 22)) := append_broken rfl
    go_wp2_with (first | (refine wpList_ld14 rfl _ rfl _ _ rfl B2.out.box rfl ?_) | (refine wpList_st14 rfl _ _ rfl _ _ _ _ _ _ _ _ _ rfl rfl B2.out.ans rfl ⟨rfl, rfl, rfl, rfl, rfl, rfl, rfl⟩ ?_; intro w9 hg9 k9 z9))
    have K9 := B2.out.kp.trans (k9.shed (B' := w.heap.size) (by simp) (by have := B2.out.size; omega))
    have T9 := HT2.out.shun B2.out.ans (by decide) noU8_0 k9
    (try simp only [Exit.inBlock, Exit.then])
    refine bodyPost_ret (YtdabflkejhoghaaGreat.HW.results_ct rfl _ _ (w.heap.size + 1) 35 _ (0, 0) _ rfl hg9 Tryz.underlying35 rfl infoT14) rfl ?_
    rw [HAP.out]
    exact ⟨_, rfl, ⟨_, _, _, _, rfl, T9, by first | exact hq | exact HS64.out⟩, K9⟩
  | false =>
    by_cases hlong : 65536 < bl
    · have HAP : Hid ((Lg.mk d q false).append b = (⟨d, q, false⟩, 3)) := append_long rfl (by rw [← HBL.out]; exact hlong)
      have HQ1 : IntKind.u64.wrap ((q : Int) + 1) = ((wrapN (q + 1) : Nat) : Int) := by rw [IntKind.wrap_u64]; unfold wrapN; omega
      obtain ⟨sq, hsq⟩ : ∃ sq, sq = wrapN (q + 1) := ⟨_, rfl⟩
      rw [← hsq] at HQ1
      clear hsq
      go_wp2_with fail
      refine (r13Frame_long _ sq b W2 (HB.out.kp B2.out.kp (by simp)) (by rw [← HBL.out]; exact hlong)).mono ?_
      rintro e w3 ⟨rfl, rfl⟩
      clear HQ1
      go_wp2_with (first | (refine wpList_ld14 rfl _ rfl _ _ rfl B2.out.box rfl ?_) | (refine wpList_st14 rfl _ _ rfl _ _ _ _ _ _ _ _ _ rfl rfl B2.out.ans rfl ⟨rfl, rfl, rfl, rfl, rfl, rfl, rfl⟩ ?_; intro w9 hg9 k9 z9))
      have K9 := B2.out.kp.trans (k9.shed (B' := w.heap.size) (by simp) (by have := B2.out.size; omega))
      have T9 := HT2.out.shun B2.out.ans (by decide) noU8_0 k9
      (try simp only [Exit.inBlock, Exit.then])
      refine bodyPost_ret (YtdabflkejhoghaaGreat.HW.results_ct rfl _ _ (w.heap.size + 1) 35 _ (0, 0) _ rfl hg9 Tryz.underlying35 rfl infoT14) rfl ?_
      rw [HAP.out]
      exact ⟨_, rfl, ⟨_, _, _, _, rfl, T9, by first | exact hq | exact HS64.out⟩, K9⟩
    · obtain ⟨sq, hsq⟩ : ∃ sq, sq = wrapN (q + 1) := ⟨_, rfl⟩
      have HQ1 : IntKind.u64.wrap ((q : Int) + 1) = (sq : Int) := by rw [hsq, IntKind.wrap_u64]; unfold wrapN; omega
      have hsq64 : sq < 18446744073709551616 := by rw [hsq]; exact wrapN_lt _
      obtain ⟨f, hf⟩ : ∃ f, f = frameB sq b := ⟨_, rfl⟩
      have hfl : f.length = 16 + bl := by rw [hf, frameB_length, HBL.out]
      have HAP0 : Hid (∀ r, andD (d.append sLog f) (fun d => d.sync sLog) = r → (Lg.mk d q false).append b = if r.2 = true then (⟨r.1, sq, false⟩, 0) else if r.1.dead = true then (⟨r.1, q, true⟩, 22) else (⟨r.1, q, false⟩, 21)) := fun r hr => by
        rw [append_some (l := ⟨d, q, false⟩) rfl (by rw [← HBL.out]; omega) (r := r) (by simp only; rw [← hsq, ← hf]; exact hr), ← hsq]
      have HS64 := Lib.hid hsq64
      have HSQ1 := Lib.hid HQ1
      clear hsq
      go_wp2_with fail
      refine (r13Frame _ sq b W2 (HB.out.kp B2.out.kp (by simp)) (by rw [← HBL.out]; omega) hsq64).mono ?_
      rintro e w3 ⟨vf, rfl, hF, k3⟩
      rw [← hf] at hF
      obtain ⟨fo, fn, fc, rfl, hfn⟩ := own_shape hF
      obtain rfl : f.length = fn := hfn.out.symm
      have HF := Lib.hid (own_bytes hF)
      have B3 := Lib.hid (B2.out.next k3)
      have HT3 := Lib.hid (HT2.out.kp k3)
      clear hF k3 hfn hf HQ1 hsq64 B2 HT2 e0 e1 e2 e3 e4 e5 e6 HB
      obtain ⟨fl, hfl2⟩ : ∃ fl, fl = f.length := ⟨_, rfl⟩
      rw [← hfl2] at HF hfl ⊢
      have HFL := Lib.hid hfl2
      have HFB := Lib.hid hfl
      clear hfl2 hfl
      obtain ⟨e0, e1, e2, e3, e4, e5, e6⟩ := boxA B3.out.box
      go_upto_region 6 with fail
      go_wp2_with fail
      refine (rAppend d _ sLog f _ w3 HT3.out HF.out (by decide) (by rw [← HFL.out, HFB.out]; have := hlong; omega)).mono ?_
      rintro e w4 ⟨v4, rfl, h4, k4⟩
      obtain ⟨ao4, n4, cap4, left4, rfl, -⟩ := h4.form
      obtain ⟨d4, hd4⟩ : ∃ d4, d4 = (d.append sLog f).1 := ⟨_, rfl⟩
      obtain ⟨q4, hq4⟩ : ∃ q4, q4 = (d.append sLog f).2 := ⟨_, rfl⟩
      rw [← hd4] at h4 ⊢
      rw [← hq4]
      have HD4 : Hid (d.append sLog f = (d4, q4)) := by show _ = _; rw [hd4, hq4]
      have B4 := Lib.hid ((B3.out.next k4).next (kp1 w4 (.cells #[.slice ao4 n4 cap4, .int .i64 (d4.room : Int), .bool d4.fuse.isSome, .int .i64 left4, .bool d4.dead] 31)))
      have HT4 := Lib.hid (h4.kp (kp1 w4 (.cells #[.slice ao4 n4 cap4, .int .i64 (d4.room : Int), .bool d4.fuse.isSome, .int .i64 left4, .bool d4.dead] 31)))
      have hg4 := World.alloc_heap_new w4 (.cells #[.slice ao4 n4 cap4, .int .i64 (d4.room : Int), .bool d4.fuse.isSome, .int .i64 left4, .bool d4.dead] 31)
      have hs4 : w.heap.size + 2 ≤ w4.heap.size := (B3.out.next k4).size
      clear h4 k4 hd4 hq4 B3 HT3 e0 e1 e2 e3 e4 e5 e6 HF
      go_upto_region 7 with fail
      obtain ⟨W5, hW5⟩ : ∃ W5, W5 = w4.alloc (.cells #[.slice ao4 n4 cap4, .int .i64 (d4.room : Int), .bool d4.fuse.isSome, .int .i64 left4, .bool d4.dead] 31) := ⟨_, rfl⟩
      rw [← hW5] at B4 HT4 hg4 ⊢
      obtain ⟨g4, hg4e⟩ : ∃ g4, g4 = w4.heap.size := ⟨_, rfl⟩
      rw [← hg4e] at hg4 hs4 ⊢
      have HG4 := Lib.hid hg4
      clear hW5 hg4 hg4e
      obtain ⟨e0, e1, e2, e3, e4, e5, e6⟩ := boxA B4.out.box
      obtain ⟨f0, f1, f2, f3, f4, f5, f6⟩ := frA B4.out.box
      go_upto_region 8 with (refine wpList_ldT rfl _ rfl _ _ rfl HG4.out rfl ?_)
      have kl := set5_kp W5 w.heap.size (.slice ao4 n4 cap4) (.int .i64 (d4.room : Int)) (.bool d4.fuse.isSome) (.int .i64 left4) (.bool d4.dead)
      have hb := set7 B4.out.box (.slice ao4 n4 cap4) (.int .i64 (d4.room : Int)) (.bool d4.fuse.isSome) (.int .i64 left4) (.bool d4.dead)
      obtain ⟨W6, hW6⟩ : ∃ W6, W6 = (((((W5.setCell ⟨w.heap.size, 0, none⟩ (.slice ao4 n4 cap4)).setCell ⟨w.heap.size, 1, none⟩ (.int .i64 (d4.room : Int))).setCell ⟨w.heap.size, 2, none⟩ (.bool d4.fuse.isSome)).setCell ⟨w.heap.size, 3, none⟩ (.int .i64 left4)).setCell ⟨w.heap.size, 4, none⟩ (.bool d4.dead)) := ⟨_, rfl⟩
      rw [← hW6] at kl hb ⊢
      have B6 := Lib.hid (B4.out.put kl hb)
      have HT6 := Lib.hid (HT4.out.shun B4.out.box (by decide) (noU8_A _ _ _ _ _ _ _ _ _) kl)
      have HG6 := Lib.hid ((kl.block g4 (Array.getElem?_eq_some_iff.1 HG4.out).1 (by simp; omega)).trans HG4.out)
      clear kl hb hW6 e0 e1 e2 e3 e4 e5 e6 f0 f1 f2 f3 f4 f5 f6 B4 HT4 HG4
      obtain ⟨t0, t1, t2, t3, t4⟩ := boxT HG6.out
      cases q4 with
      | false =>
        cases hdd : d4.dead with
        | false =>
          have HAP : Hid ((Lg.mk d q false).append b = (⟨d4, q, false⟩, 21)) := by show _ = _; rw [HAP0.out (d4, false) (by rw [andD_false (r := d.append sLog f) (by rw [HD4.out])]; rw [HD4.out])]; simp [hdd]
          rw [hdd] at t4
          clear HAP0
          go_wp2_with (first | (refine wpList_ld14 rfl _ rfl _ _ rfl B6.out.box rfl ?_) | (refine wpList_st14 rfl _ _ rfl _ _ _ _ _ _ _ _ _ rfl rfl B6.out.ans rfl ⟨rfl, rfl, rfl, rfl, rfl, rfl, rfl⟩ ?_; intro w9 hg9 k9 z9))
          have K9 := B6.out.kp.trans (k9.shed (B' := w.heap.size) (by simp) (by have := B6.out.size; omega))
          have T9 := HT6.out.shun B6.out.ans (by decide) noU8_0 k9
          (try simp only [Exit.inBlock, Exit.then])
          refine bodyPost_ret (YtdabflkejhoghaaGreat.HW.results_ct rfl _ _ (w.heap.size + 1) 35 _ (0, 0) _ rfl hg9 Tryz.underlying35 rfl infoT14) rfl ?_
          rw [HAP.out]
          exact ⟨_, rfl, ⟨_, _, _, _, rfl, T9, by first | exact hq | exact HS64.out⟩, K9⟩
        | true =>
          have HAP : Hid ((Lg.mk d q false).append b = (⟨d4, q, true⟩, 22)) := by show _ = _; rw [HAP0.out (d4, false) (by rw [andD_false (r := d.append sLog f) (by rw [HD4.out])]; rw [HD4.out])]; simp [hdd]
          rw [hdd] at t4
          clear HAP0
          obtain ⟨e0, e1, e2, e3, e4, e5, e6⟩ := boxA B6.out.box
          obtain ⟨f0, f1, f2, f3, f4, f5, f6⟩ := frA B6.out.box
          go_upto_region 16 with fail
          have kl : Kp [w.heap.size] W6.heap.size W6 (W6.setCell ⟨w.heap.size, 6, none⟩ (.bool true)) := (Kp.refl _ _ _).setCell (.inr (by simp)) 6 none _
          have hb := set76 B6.out.box (.bool true)
          obtain ⟨W9, hW9⟩ : ∃ W9, W9 = W6.setCell ⟨w.heap.size, 6, none⟩ (.bool true) := ⟨_, rfl⟩
          rw [← hW9] at kl hb ⊢
          have B9 := Lib.hid (B6.out.put kl hb)
          have HT9 := Lib.hid (HT6.out.shun B6.out.box (by decide) (noU8_A _ _ _ _ _ _ _ _ _) kl)
          clear kl hb hW9 e0 e1 e2 e3 e4 e5 e6 f0 f1 f2 f3 f4 f5 f6
          go_wp2_with (first | (refine wpList_ld14 rfl _ rfl _ _ rfl B9.out.box rfl ?_) | (refine wpList_st14 rfl _ _ rfl _ _ _ _ _ _ _ _ _ rfl rfl B9.out.ans rfl ⟨rfl, rfl, rfl, rfl, rfl, rfl, rfl⟩ ?_; intro w9 hg9 k9 z9))
          have K9 := B9.out.kp.trans (k9.shed (B' := w.heap.size) (by simp) (by have := B9.out.size; omega))
          have T9 := HT9.out.shun B9.out.ans (by decide) noU8_0 k9
          (try simp only [Exit.inBlock, Exit.then])
          refine bodyPost_ret (YtdabflkejhoghaaGreat.HW.results_ct rfl _ _ (w.heap.size + 1) 35 _ (0, 0) _ rfl hg9 Tryz.underlying35 rfl infoT14) rfl ?_
          rw [HAP.out]
          exact ⟨_, rfl, ⟨_, _, _, _, rfl, T9, by first | exact hq | exact HS64.out⟩, K9⟩
      | true =>
        obtain ⟨fx, hfx⟩ := append_there (d := d) (nm := sLog) (b := f) (by rw [HD4.out])
        rw [show (d.append sLog f).1 = d4 by rw [HD4.out]] at hfx
        have HFX := Lib.hid hfx
        clear hfx
        go_upto_region 11 with fail
        go_wp2_with (refine wpList_ldT rfl _ rfl _ _ rfl HG6.out rfl ?_)
        refine (rSync d4 _ sLog W6 HT6.out).mono ?_
        rintro e w8 ⟨v8, rfl, h8, k8⟩
        obtain ⟨ao8, n8, cap8, left8, rfl, -⟩ := h8.form
        obtain ⟨d8, hd8⟩ : ∃ d8, d8 = (d4.sync sLog).1 := ⟨_, rfl⟩
        obtain ⟨q8, hq8⟩ : ∃ q8, q8 = (d4.sync sLog).2 := ⟨_, rfl⟩
        rw [← hd8] at h8 ⊢
        rw [← hq8]
        have HD8 : Hid (d4.sync sLog = (d8, q8)) := by show _ = _; rw [hd8, hq8]
        have B8 := Lib.hid ((B6.out.next k8).next (kp1 w8 (.cells #[.slice ao8 n8 cap8, .int .i64 (d8.room : Int), .bool d8.fuse.isSome, .int .i64 left8, .bool d8.dead] 31)))
        have HT8 := Lib.hid (h8.kp (kp1 w8 (.cells #[.slice ao8 n8 cap8, .int .i64 (d8.room : Int), .bool d8.fuse.isSome, .int .i64 left8, .bool d8.dead] 31)))
        have hg8 := World.alloc_heap_new w8 (.cells #[.slice ao8 n8 cap8, .int .i64 (d8.room : Int), .bool d8.fuse.isSome, .int .i64 left8, .bool d8.dead] 31)
        have hs8 : w.heap.size + 2 ≤ w8.heap.size := (B6.out.next k8).size
        clear h8 k8 hd8 hq8 B6 HT6 HG6 t0 t1 t2 t3 t4
        go_upto_region 12 with fail
        obtain ⟨W8, hW8⟩ : ∃ W8, W8 = w8.alloc (.cells #[.slice ao8 n8 cap8, .int .i64 (d8.room : Int), .bool d8.fuse.isSome, .int .i64 left8, .bool d8.dead] 31) := ⟨_, rfl⟩
        rw [← hW8] at B8 HT8 hg8 ⊢
        obtain ⟨g8, hg8e⟩ : ∃ g8, g8 = w8.heap.size := ⟨_, rfl⟩
        rw [← hg8e] at hg8 hs8 ⊢
        have HG8 := Lib.hid hg8
        clear hW8 hg8 hg8e
        obtain ⟨e0, e1, e2, e3, e4, e5, e6⟩ := boxA B8.out.box
        obtain ⟨f0, f1, f2, f3, f4, f5, f6⟩ := frA B8.out.box
        go_upto_region 13 with (refine wpList_ldT rfl _ rfl _ _ rfl HG8.out rfl ?_)
        have kl := set5_kp W8 w.heap.size (.slice ao8 n8 cap8) (.int .i64 (d8.room : Int)) (.bool d8.fuse.isSome) (.int .i64 left8) (.bool d8.dead)
        have hb := set7 B8.out.box (.slice ao8 n8 cap8) (.int .i64 (d8.room : Int)) (.bool d8.fuse.isSome) (.int .i64 left8) (.bool d8.dead)
        obtain ⟨W10, hW10⟩ : ∃ W10, W10 = (((((W8.setCell ⟨w.heap.size, 0, none⟩ (.slice ao8 n8 cap8)).setCell ⟨w.heap.size, 1, none⟩ (.int .i64 (d8.room : Int))).setCell ⟨w.heap.size, 2, none⟩ (.bool d8.fuse.isSome)).setCell ⟨w.heap.size, 3, none⟩ (.int .i64 left8)).setCell ⟨w.heap.size, 4, none⟩ (.bool d8.dead)) := ⟨_, rfl⟩
        rw [← hW10] at kl hb ⊢
        have B10 := Lib.hid (B8.out.put kl hb)
        have HT10 := Lib.hid (HT8.out.shun B8.out.box (by decide) (noU8_A _ _ _ _ _ _ _ _ _) kl)
        clear kl hb hW10 e0 e1 e2 e3 e4 e5 e6 f0 f1 f2 f3 f4 f5 f6 B8 HT8 HG8
        cases q8 with
        | false =>
          have hdd := sync_dies HFX.out (by rw [HD8.out])
          have HAP : Hid ((Lg.mk d q false).append b = (⟨d8, q, true⟩, 22)) := by show _ = _; rw [HAP0.out (d8, false) (by rw [andD_true (r := d.append sLog f) (by rw [HD4.out])]; rw [HD4.out, HD8.out])]; rw [HD8.out] at hdd; simp at hdd; simp [hdd]
          clear HAP0 hdd
          obtain ⟨e0, e1, e2, e3, e4, e5, e6⟩ := boxA B10.out.box
          obtain ⟨f0, f1, f2, f3, f4, f5, f6⟩ := frA B10.out.box
          go_upto_region 16 with fail
          have kl : Kp [w.heap.size] W10.heap.size W10 (W10.setCell ⟨w.heap.size, 6, none⟩ (.bool true)) := (Kp.refl _ _ _).setCell (.inr (by simp)) 6 none _
          have hb := set76 B10.out.box (.bool true)
          obtain ⟨W9, hW9⟩ : ∃ W9, W9 = W10.setCell ⟨w.heap.size, 6, none⟩ (.bool true) := ⟨_, rfl⟩
          rw [← hW9] at kl hb ⊢
          have B9 := Lib.hid (B10.out.put kl hb)
          have HT9 := Lib.hid (HT10.out.shun B10.out.box (by decide) (noU8_A _ _ _ _ _ _ _ _ _) kl)
          clear kl hb hW9 e0 e1 e2 e3 e4 e5 e6 f0 f1 f2 f3 f4 f5 f6
          go_wp2_with (first | (refine wpList_ld14 rfl _ rfl _ _ rfl B9.out.box rfl ?_) | (refine wpList_st14 rfl _ _ rfl _ _ _ _ _ _ _ _ _ rfl rfl B9.out.ans rfl ⟨rfl, rfl, rfl, rfl, rfl, rfl, rfl⟩ ?_; intro w9 hg9 k9 z9))
          have K9 := B9.out.kp.trans (k9.shed (B' := w.heap.size) (by simp) (by have := B9.out.size; omega))
          have T9 := HT9.out.shun B9.out.ans (by decide) noU8_0 k9
          (try simp only [Exit.inBlock, Exit.then])
          refine bodyPost_ret (YtdabflkejhoghaaGreat.HW.results_ct rfl _ _ (w.heap.size + 1) 35 _ (0, 0) _ rfl hg9 Tryz.underlying35 rfl infoT14) rfl ?_
          rw [HAP.out]
          exact ⟨_, rfl, ⟨_, _, _, _, rfl, T9, by first | exact hq | exact HS64.out⟩, K9⟩
        | true =>
          have HAP : Hid ((Lg.mk d q false).append b = (⟨d8, sq, false⟩, 0)) := by show _ = _; rw [HAP0.out (d8, true) (by rw [andD_true (r := d.append sLog f) (by rw [HD4.out])]; rw [HD4.out, HD8.out])]; simp
          clear HAP0
          obtain ⟨e0, e1, e2, e3, e4, e5, e6⟩ := boxA B10.out.box
          obtain ⟨f0, f1, f2, f3, f4, f5, f6⟩ := frA B10.out.box
          have hs1 := HSQ1.out
          go_upto_region 18 with fail
          have kl : Kp [w.heap.size] W10.heap.size W10 (W10.setCell ⟨w.heap.size, 5, none⟩ (.int .u64 (sq : Int))) := (Kp.refl _ _ _).setCell (.inr (by simp)) 5 none _
          have hb := set75 B10.out.box (.int .u64 (sq : Int))
          obtain ⟨W9, hW9⟩ : ∃ W9, W9 = W10.setCell ⟨w.heap.size, 5, none⟩ (.int .u64 (sq : Int)) := ⟨_, rfl⟩
          rw [← hW9] at kl hb ⊢
          have B9 := Lib.hid (B10.out.put kl hb)
          have HT9 := Lib.hid (HT10.out.shun B10.out.box (by decide) (noU8_A _ _ _ _ _ _ _ _ _) kl)
          clear kl hb hW9 hs1 e0 e1 e2 e3 e4 e5 e6 f0 f1 f2 f3 f4 f5 f6
          go_wp2_with (first | (refine wpList_ld14 rfl _ rfl _ _ rfl B9.out.box rfl ?_) | (refine wpList_st14 rfl _ _ rfl _ _ _ _ _ _ _ _ _ rfl rfl B9.out.ans rfl ⟨rfl, rfl, rfl, rfl, rfl, rfl, rfl⟩ ?_; intro w9 hg9 k9 z9))
          have K9 := B9.out.kp.trans (k9.shed (B' := w.heap.size) (by simp) (by have := B9.out.size; omega))
          have T9 := HT9.out.shun B9.out.ans (by decide) noU8_0 k9
          (try simp only [Exit.inBlock, Exit.then])
          refine bodyPost_ret (YtdabflkejhoghaaGreat.HW.results_ct rfl _ _ (w.heap.size + 1) 35 _ (0, 0) _ rfl hg9 Tryz.underlying35 rfl infoT14) rfl ?_
          rw [HAP.out]
          exact ⟨_, rfl, ⟨_, _, _, _, rfl, T9, by first | exact hq | exact HS64.out⟩, K9⟩
end Go.Proofs.YtdabflkejhoghaaGreat.Hand
