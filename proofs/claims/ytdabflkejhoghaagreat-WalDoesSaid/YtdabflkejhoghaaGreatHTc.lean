/- The reference's log: Pack, walked. -/
import Derived.Below
import Derived.Deep.Draws
import Derived.Deep.AppendLies
import Derived.Maps.AppendAt
import Derived.OwnWalk
import Derived.Laws.BytesArg
import Derived.Laws.MakeOwn
import Derived.Laws.OwnMore
import Derived.Deep.OwnRows
import Derived.Tactics
import Derived.Lib.ConvBytes
import Derived.Laws.Slices
import Derived.WalkKit
import Derived.KernelRfl
import Derived.RowKit3
import Derived.Deep.LoopGhost
import Derived.Deep.QuietTactic
import Derived.BigQuiet
import Derived.WideLaws
import Derived.Deep.DeepCutAuto
import Derived.Deep.CutBlock
import Derived.Deep.RegionHeld3
import Derived.Laws.Rows
import Derived.Lib.AppendStr
import Derived.ArgAppend
import Derived.Laws.IdiomCopy
import Derived.OrdersHeld
import Derived.Laws.BitsLemmas
import Derived.RowKit
import Derived.Outline
import Derived.Maps.Own
import Derived.Maps.OwnOps
import Derived.Maps.OwnSet
import Derived.Maps.Views
import Derived.Maps.RangeWalk
import Derived.Maps.Ext
import Derived.RangeFuncOwn
import Derived.OneCell
import Derived.Deep.DeepMust
import Derived.Lib.Hide
import Derived.StillTailTactics
import Derived.Laws.AppendOwnNone
import Derived.WalkMore
import Derived.Lib.SlBytesConst
import Derived.WalkLawsBesides
import Derived.Laws.BitsAllLaws
import Derived.Test.YtdabflkejhoghaaGreatHWa
import Derived.Test.YtdabflkejhoghaaGreatWLast
import Derived.Test.YtdabflkejhoghaaGreatHTa
namespace Go.Proofs.YtdabflkejhoghaaGreat.Hand
open Go Go.RowKit Go.Maps Go.WideMaps Go.Proofs.YtdabflkejhoghaaGreat.HW Go.Proofs.YtdabflkejhoghaaGreatW.PrintLast
set_option linter.unusedVariables false
set_option linter.unusedSimpArgs false
theorem gone_dies {d : Dk} {nm : List UInt8} (h : (d.goneD nm).2 = false) : (d.goneD nm).1.dead = true := by
  unfold Dk.goneD at h ⊢
  split at h
  · rename_i hc
    rw [if_pos hc]
    unfold Dk.there at hc
    obtain ⟨f, hf⟩ := Option.isSome_iff_exists.1 hc
    exact drop_dies hf h
  · cases h
theorem packL (d : Dk) (q : Nat) (b f : List UInt8) (hb : b.length ≤ 65536) (hf : f = frameB q b) (r : Dk × Bool) (hr : d.packD f = r) :
    (Lg.mk d q false).pack b = if r.2 = true then (⟨r.1, q, false⟩, 0) else if r.1.dead = true then (⟨r.1, q, true⟩, 22) else (⟨(r.1.goneD sNext).1, q, false⟩, 21) := by
  subst hf hr
  unfold Lg.pack
  rw [if_neg (by simp), if_neg (by omega)]
theorem BoxesA.nextG {w w3 w4 : World} {x0 x1 x2 x3 x4 x5 x6 : Value} {g : Nat} (h : BoxesA w w3 x0 x1 x2 x3 x4 x5 x6) (k : Kp [g] w3.heap.size w3 w4) (hg : w.heap.size + 2 ≤ g) : BoxesA w w4 x0 x1 x2 x3 x4 x5 x6 :=
  ⟨h.kp.trans (k.shed (B' := w.heap.size) (by simp; omega) (by have := h.size; omega)), Nat.le_trans h.size k.size, (k.block _ (by have := h.size; omega) (by simp; omega)).trans h.box, (k.block _ (by have := h.size; omega) (by simp; omega)).trans h.ans⟩
set_option maxHeartbeats 8000000 in
set_option maxRecDepth 100000 in
/-- the reference's Pack -/
theorem r14Pack {A : Nat → Prop} (l : Lg) (v : Value) (b : List UInt8) (vb : Value) (w : World) (h : IsT14 w v l.d l.seq l.broken) (hb : BytesV w A vb b) :
    Calls Tryz.prog 23 #[v, vb] w fun e w' => ∃ v', e = .returned (.tuple #[v', .int .i64 ((l.pack b).2 : Int)]) ∧ IsT14 w' v' (l.pack b).1.d (l.pack b).1.seq (l.pack b).1.broken ∧ Kp [] w.heap.size w w' := by
  obtain ⟨d, q, br⟩ := l
  obtain ⟨ao, n, cap, left, rfl, ht, hq⟩ := h
  simp only at ht hq ⊢
  have HT := Lib.hid ht
  have HB := Lib.hid hb.low
  obtain ⟨bo, bc, rfl, -, -, -⟩ := id hb
  obtain ⟨bl, hbl⟩ : ∃ bl, bl = b.length := ⟨_, rfl⟩
  rw [← hbl] at HB ⊢
  have HBL := Lib.hid hbl
  have B2 := Lib.hid (BoxesA.new w (.slice ao n cap) (.int .i64 (d.room : Int)) (.bool d.fuse.isSome) (.int .i64 left) (.bool d.dead) (.int .u64 (q : Int)) (.bool br))
  clear ht hb hbl
  go_enter Tryz.func23, Tryz.ntmps23
  go_upto_region 1 with fail
  obtain ⟨W2, hW2⟩ : ∃ W2, W2 = (w.alloc (.cells #[.slice ao n cap, .int .i64 (d.room : Int), .bool d.fuse.isSome, .int .i64 left, .bool d.dead, .int .u64 (q : Int), .bool br] 35)).alloc (.cells #[.slice none 0 0, .int .i64 0, .bool false, .int .i64 0, .bool false, .int .u64 0, .bool false] 35) := ⟨_, rfl⟩
  rw [← hW2] at B2 ⊢
  clear hW2
  obtain ⟨e0, e1, e2, e3, e4, e5, e6⟩ := boxA B2.out.box
  have HT2 := Lib.hid (HT.out.kp B2.out.kp)
  cases br with
  | true =>
    have HAP : Hid ((Lg.mk d q true).pack b = (⟨d, q, true⟩, 22)) := by show _ = _; unfold Lg.pack; rw [if_pos rfl]
    go_wp2_with (first | (refine wpList_ld14 rfl _ rfl _ _ rfl B2.out.box rfl ?_) | (refine wpList_st14 rfl _ _ rfl _ _ _ _ _ _ _ _ _ rfl rfl B2.out.ans rfl ⟨rfl, rfl, rfl, rfl, rfl, rfl, rfl⟩ ?_; intro w9 hg9 k9 z9))
    have K9 := B2.out.kp.trans (k9.shed (B' := w.heap.size) (by simp) (by have := B2.out.size; omega))
    have T9 := HT2.out.shun B2.out.ans (by decide) noU8_0 k9
    (try simp only [Exit.inBlock, Exit.then])
    refine bodyPost_ret (YtdabflkejhoghaaGreat.HW.results_ct rfl _ _ (w.heap.size + 1) 35 _ (0, 0) _ rfl hg9 Tryz.underlying35 rfl infoT14) rfl ?_
    rw [HAP.out]
    exact ⟨_, rfl, ⟨_, _, _, _, rfl, T9, hq⟩, K9⟩
  | false =>
    by_cases hlong : 65536 < bl
    · have HAP : Hid ((Lg.mk d q false).pack b = (⟨d, q, false⟩, 3)) := by show _ = _; unfold Lg.pack; rw [if_neg (by simp), if_pos (by rw [← HBL.out]; exact hlong)]
      go_wp2_with fail
      refine (r13Frame_long _ q b W2 (HB.out.kp B2.out.kp (by simp)) (by rw [← HBL.out]; exact hlong)).mono ?_
      rintro e w3 ⟨rfl, rfl⟩
      go_wp2_with (first | (refine wpList_ld14 rfl _ rfl _ _ rfl B2.out.box rfl ?_) | (refine wpList_st14 rfl _ _ rfl _ _ _ _ _ _ _ _ _ rfl rfl B2.out.ans rfl ⟨rfl, rfl, rfl, rfl, rfl, rfl, rfl⟩ ?_; intro w9 hg9 k9 z9))
      have K9 := B2.out.kp.trans (k9.shed (B' := w.heap.size) (by simp) (by have := B2.out.size; omega))
      have T9 := HT2.out.shun B2.out.ans (by decide) noU8_0 k9
      (try simp only [Exit.inBlock, Exit.then])
      refine bodyPost_ret (YtdabflkejhoghaaGreat.HW.results_ct rfl _ _ (w.heap.size + 1) 35 _ (0, 0) _ rfl hg9 Tryz.underlying35 rfl infoT14) rfl ?_
      rw [HAP.out]
      exact ⟨_, rfl, ⟨_, _, _, _, rfl, T9, hq⟩, K9⟩
    · obtain ⟨f, hf⟩ : ∃ f, f = frameB q b := ⟨_, rfl⟩
      have hfl : f.length = 16 + bl := by rw [hf, frameB_length, HBL.out]
      have HAP0 : Hid (∀ r, d.packD f = r → (Lg.mk d q false).pack b = if r.2 = true then (⟨r.1, q, false⟩, 0) else if r.1.dead = true then (⟨r.1, q, true⟩, 22) else (⟨(r.1.goneD sNext).1, q, false⟩, 21)) := fun r hr => packL d q b f (by rw [← HBL.out]; omega) hf r hr
      go_wp2_with fail
      refine (r13Frame _ q b W2 (HB.out.kp B2.out.kp (by simp)) (by rw [← HBL.out]; omega) hq).mono ?_
      rintro e w3 ⟨vf, rfl, hF, k3⟩
      rw [← hf] at hF
      obtain ⟨fo, fn, fc, rfl, hfn⟩ := own_shape hF
      obtain rfl : f.length = fn := hfn.out.symm
      have HF := Lib.hid (own_bytes hF)
      have B3 := Lib.hid (B2.out.next k3)
      have HT3 := Lib.hid (HT2.out.kp k3)
      clear hF k3 hfn hf B2 HT2 e0 e1 e2 e3 e4 e5 e6 HB
      obtain ⟨fl, hfl2⟩ : ∃ fl, fl = f.length := ⟨_, rfl⟩
      rw [← hfl2] at HF hfl ⊢
      have HFL := Lib.hid hfl2
      have HFB := Lib.hid hfl
      clear hfl2 hfl
      obtain ⟨e0, e1, e2, e3, e4, e5, e6⟩ := boxA B3.out.box
      go_wp2_with fail
      refine (r14gone d _ sNext w3 HT3.out).mono ?_
      rintro e w4 ⟨v4, rfl, h4, k4⟩
      obtain ⟨ao4, n4, cap4, left4, rfl, -⟩ := h4.form
      obtain ⟨d4, hd4⟩ : ∃ d4, d4 = (d.goneD sNext).1 := ⟨_, rfl⟩
      obtain ⟨q4, hq4⟩ : ∃ q4, q4 = (d.goneD sNext).2 := ⟨_, rfl⟩
      rw [← hd4] at h4 ⊢
      rw [← hq4]
      have HD4 : Hid (d.goneD sNext = (d4, q4)) := by show _ = _; rw [hd4, hq4]
      have B4 := Lib.hid ((B3.out.next k4).next (kp1 w4 (.cells #[.slice ao4 n4 cap4, .int .i64 (d4.room : Int), .bool d4.fuse.isSome, .int .i64 left4, .bool d4.dead] 31)))
      have HT4 := Lib.hid (h4.kp (kp1 w4 (.cells #[.slice ao4 n4 cap4, .int .i64 (d4.room : Int), .bool d4.fuse.isSome, .int .i64 left4, .bool d4.dead] 31)))
      have hg4 := World.alloc_heap_new w4 (.cells #[.slice ao4 n4 cap4, .int .i64 (d4.room : Int), .bool d4.fuse.isSome, .int .i64 left4, .bool d4.dead] 31)
      have hs4 : w.heap.size + 2 ≤ w4.heap.size := (B3.out.next k4).size
      have HF4 := Lib.hid ((HF.out.kp k4 (by simp)).kp (kp1 w4 (.cells #[.slice ao4 n4 cap4, .int .i64 (d4.room : Int), .bool d4.fuse.isSome, .int .i64 left4, .bool d4.dead] 31)) (by simp))
      clear h4 k4 hd4 hq4
      go_upto_region 7 with fail
      obtain ⟨W4, hW4⟩ : ∃ W4, W4 = w4.alloc (.cells #[.slice ao4 n4 cap4, .int .i64 (d4.room : Int), .bool d4.fuse.isSome, .int .i64 left4, .bool d4.dead] 31) := ⟨_, rfl⟩
      obtain ⟨g4, hge4⟩ : ∃ g4, g4 = w4.heap.size := ⟨_, rfl⟩
      rw [← hW4] at B4 HT4 hg4 HF4 ⊢
      rw [← hge4] at hg4 hs4 ⊢
      have HG4 := Lib.hid hg4
      have hgl4 : g4 < W4.heap.size := (Array.getElem?_eq_some_iff.1 hg4).1
      clear hW4 hg4 hge4
      clear e0 e1 e2 e3 e4 e5 e6 B3 HT3 HF
      cases q4 with
      | false =>
        have hdd := gone_dies (d := d) (nm := sNext) (by rw [HD4.out])
        rw [HD4.out] at hdd
        have HAP : Hid ((Lg.mk d q false).pack b = (⟨d4, q, true⟩, 22)) := by show _ = _; rw [HAP0.out (d4, false) (by unfold Dk.packD; rw [andD_false (r := d.goneD sNext) (by rw [HD4.out]), HD4.out, andD_false (r := (d4, false)) rfl])]; simp at hdd; simp [hdd]
        clear HAP0 hdd
        obtain ⟨e0, e1, e2, e3, e4, e5, e6⟩ := boxA B4.out.box
        obtain ⟨f0, f1, f2, f3, f4, f5, f6⟩ := frA B4.out.box
        go_upto_region 20 with (refine wpList_ldT rfl _ rfl _ _ rfl HG4.out rfl ?_)
        have kl := set5_kp W4 w.heap.size (.slice ao4 n4 cap4) (.int .i64 (d4.room : Int)) (.bool d4.fuse.isSome) (.int .i64 left4) (.bool d4.dead)
        have hb := set7 B4.out.box (.slice ao4 n4 cap4) (.int .i64 (d4.room : Int)) (.bool d4.fuse.isSome) (.int .i64 left4) (.bool d4.dead)
        obtain ⟨W20, hWn⟩ : ∃ W, W = (((((W4.setCell ⟨w.heap.size, 0, none⟩ (.slice ao4 n4 cap4)).setCell ⟨w.heap.size, 1, none⟩ (.int .i64 (d4.room : Int))).setCell ⟨w.heap.size, 2, none⟩ (.bool d4.fuse.isSome)).setCell ⟨w.heap.size, 3, none⟩ (.int .i64 left4)).setCell ⟨w.heap.size, 4, none⟩ (.bool d4.dead)) := ⟨_, rfl⟩
        rw [← hWn] at kl hb ⊢
        have B20 := Lib.hid (B4.out.put kl hb)
        have HT20 := Lib.hid (HT4.out.shun B4.out.box (by decide) (noU8_A _ _ _ _ _ _ _ _ _) kl)
        clear kl hb hWn e0 e1 e2 e3 e4 e5 e6 f0 f1 f2 f3 f4 f5 f6
        obtain ⟨e0, e1, e2, e3, e4, e5, e6⟩ := boxA B20.out.box
        obtain ⟨f0, f1, f2, f3, f4, f5, f6⟩ := frA B20.out.box
        go_upto_region 22 with fail
        have kl : Kp [w.heap.size] W20.heap.size W20 (W20.setCell ⟨w.heap.size, 6, none⟩ (.bool true)) := (Kp.refl _ _ _).setCell (.inr (by simp)) 6 none _
        have hb := set76 B20.out.box (.bool true)
        obtain ⟨W99, hWn⟩ : ∃ W, W = W20.setCell ⟨w.heap.size, 6, none⟩ (.bool true) := ⟨_, rfl⟩
        rw [← hWn] at kl hb ⊢
        have B99 := Lib.hid (B20.out.put kl hb)
        have HT99 := Lib.hid (HT20.out.shun B20.out.box (by decide) (noU8_A _ _ _ _ _ _ _ _ _) kl)
        clear kl hb hWn e0 e1 e2 e3 e4 e5 e6 f0 f1 f2 f3 f4 f5 f6
        go_wp2_with (first | (refine wpList_ld14 rfl _ rfl _ _ rfl B99.out.box rfl ?_) | (refine wpList_st14 rfl _ _ rfl _ _ _ _ _ _ _ _ _ rfl rfl B99.out.ans rfl ⟨rfl, rfl, rfl, rfl, rfl, rfl, rfl⟩ ?_; intro w9 hg9 k9 z9))
        have K9 := B99.out.kp.trans (k9.shed (B' := w.heap.size) (by simp) (by have := B99.out.size; omega))
        have T9 := HT99.out.shun B99.out.ans (by decide) noU8_0 k9
        (try simp only [Exit.inBlock, Exit.then])
        refine bodyPost_ret (YtdabflkejhoghaaGreat.HW.results_ct rfl _ _ (w.heap.size + 1) 35 _ (0, 0) _ rfl hg9 Tryz.underlying35 rfl infoT14) rfl ?_
        rw [HAP.out]
        exact ⟨_, rfl, ⟨_, _, _, _, rfl, T9, hq⟩, K9⟩
      | true =>
        go_upto_region 8 with fail
        go_wp2_with (refine wpList_ldT rfl _ rfl _ _ rfl HG4.out rfl ?_)
        refine (r14laid d4 _ f sSnap _ W4 HT4.out HF4.out (by decide) (by rw [← HFL.out, HFB.out]; omega)).mono ?_
        rintro e w6 ⟨v6, rfl, h6, k6⟩
        obtain ⟨ao6, n6, cap6, left6, rfl, -⟩ := h6.form
        obtain ⟨d6, hd6⟩ : ∃ d6, d6 = (d4.laidD f sSnap).1 := ⟨_, rfl⟩
        obtain ⟨q6, hq6⟩ : ∃ q6, q6 = (d4.laidD f sSnap).2 := ⟨_, rfl⟩
        rw [← hd6] at h6 ⊢
        rw [← hq6]
        have HD6 : Hid (d4.laidD f sSnap = (d6, q6)) := by show _ = _; rw [hd6, hq6]
        have B6 := Lib.hid ((B4.out.next k6).next (kp1 w6 (.cells #[.slice ao6 n6 cap6, .int .i64 (d6.room : Int), .bool d6.fuse.isSome, .int .i64 left6, .bool d6.dead] 31)))
        have HT6 := Lib.hid (h6.kp (kp1 w6 (.cells #[.slice ao6 n6 cap6, .int .i64 (d6.room : Int), .bool d6.fuse.isSome, .int .i64 left6, .bool d6.dead] 31)))
        have hg6 := World.alloc_heap_new w6 (.cells #[.slice ao6 n6 cap6, .int .i64 (d6.room : Int), .bool d6.fuse.isSome, .int .i64 left6, .bool d6.dead] 31)
        have hs6 : w.heap.size + 2 ≤ w6.heap.size := (B4.out.next k6).size
        have HG46 := Lib.hid (((kp1 w6 (.cells #[.slice ao6 n6 cap6, .int .i64 (d6.room : Int), .bool d6.fuse.isSome, .int .i64 left6, .bool d6.dead] 31)).block g4 (Nat.lt_of_lt_of_le hgl4 k6.size) (by simp)).trans ((k6.block g4 hgl4 (by simp)).trans HG4.out))
        clear h6 k6 hd6 hq6
        go_upto_region 9 with fail
        obtain ⟨W6, hW6⟩ : ∃ W6, W6 = w6.alloc (.cells #[.slice ao6 n6 cap6, .int .i64 (d6.room : Int), .bool d6.fuse.isSome, .int .i64 left6, .bool d6.dead] 31) := ⟨_, rfl⟩
        obtain ⟨g6, hge6⟩ : ∃ g6, g6 = w6.heap.size := ⟨_, rfl⟩
        rw [← hW6] at B6 HT6 hg6 HG46 ⊢
        rw [← hge6] at hg6 hs6 ⊢
        have HG6 := Lib.hid hg6
        have hgl6 : g6 < W6.heap.size := (Array.getElem?_eq_some_iff.1 hg6).1
        clear hW6 hg6 hge6
        go_upto_region 10 with (first | (refine wpList_ldT rfl _ rfl _ _ rfl HG6.out rfl ?_) | (refine wpList_stT rfl _ _ rfl _ _ _ _ _ _ _ rfl rfl HG46.out rfl ⟨rfl, rfl, rfl, rfl, rfl⟩ ?_; intro w10 hgn kn zn))
        have B10 := Lib.hid (B6.out.nextG kn hs4)
        have HT10 := Lib.hid (HT6.out.shun HG46.out (by decide) (noU8_T _ _ _ _ _ _ _) kn)
        have HG10 := Lib.hid hgn
        have hgl10 : g4 < w10.heap.size := (Array.getElem?_eq_some_iff.1 hgn).1
        clear hgn kn zn
        clear HG46 HG6 HG4 B6 HT6 B4 HT4
        obtain ⟨t0, t1, t2, t3, t4⟩ := boxT HG10.out
        cases q6 with
        | false =>
          cases hdd : d6.dead with
          | false =>
            have HAP0 : Hid ((Lg.mk d q false).pack b = (⟨(d6.goneD sNext).1, q, false⟩, 21)) := by show _ = _; rw [HAP0.out (d6, false) (by unfold Dk.packD; rw [andD_true (r := d.goneD sNext) (by rw [HD4.out]), HD4.out]; simp only; rw [HD6.out, andD_false (r := (d6, false)) rfl])]; simp [hdd]
            rw [hdd] at t4
            clear hdd
            go_upto_region 12 with fail
            go_wp2_with (refine wpList_ldT rfl _ rfl _ _ rfl HG10.out rfl ?_)
            refine (r14gone d6 _ sNext w10 HT10.out).mono ?_
            rintro e w8 ⟨v8, rfl, h8, k8⟩
            obtain ⟨ao8, n8, cap8, left8, rfl, -⟩ := h8.form
            obtain ⟨d8, hd8⟩ : ∃ d8, d8 = (d6.goneD sNext).1 := ⟨_, rfl⟩
            obtain ⟨q8, hq8⟩ : ∃ q8, q8 = (d6.goneD sNext).2 := ⟨_, rfl⟩
            rw [← hd8] at h8 ⊢
            rw [← hq8]
            have HD8 : Hid (d6.goneD sNext = (d8, q8)) := by show _ = _; rw [hd8, hq8]
            have B8 := Lib.hid ((B10.out.next k8).next (kp1 w8 (.cells #[.slice ao8 n8 cap8, .int .i64 (d8.room : Int), .bool d8.fuse.isSome, .int .i64 left8, .bool d8.dead] 31)))
            have HT8 := Lib.hid (h8.kp (kp1 w8 (.cells #[.slice ao8 n8 cap8, .int .i64 (d8.room : Int), .bool d8.fuse.isSome, .int .i64 left8, .bool d8.dead] 31)))
            have hg8 := World.alloc_heap_new w8 (.cells #[.slice ao8 n8 cap8, .int .i64 (d8.room : Int), .bool d8.fuse.isSome, .int .i64 left8, .bool d8.dead] 31)
            have hs8 : w.heap.size + 2 ≤ w8.heap.size := (B10.out.next k8).size
            clear h8 k8 hd8 hq8
            go_upto_region 13 with fail
            obtain ⟨W8, hW8⟩ : ∃ W8, W8 = w8.alloc (.cells #[.slice ao8 n8 cap8, .int .i64 (d8.room : Int), .bool d8.fuse.isSome, .int .i64 left8, .bool d8.dead] 31) := ⟨_, rfl⟩
            obtain ⟨g8, hge8⟩ : ∃ g8, g8 = w8.heap.size := ⟨_, rfl⟩
            rw [← hW8] at B8 HT8 hg8 ⊢
            rw [← hge8] at hg8 hs8 ⊢
            have HG8 := Lib.hid hg8
            have hgl8 : g8 < W8.heap.size := (Array.getElem?_eq_some_iff.1 hg8).1
            clear hW8 hg8 hge8
            have HAP : Hid ((Lg.mk d q false).pack b = (⟨d8, q, false⟩, 21)) := by show _ = _; rw [HAP0.out, HD8.out]
            clear t0 t1 t2 t3 t4 HAP0
            obtain ⟨e0, e1, e2, e3, e4, e5, e6⟩ := boxA B8.out.box
            obtain ⟨f0, f1, f2, f3, f4, f5, f6⟩ := frA B8.out.box
            go_upto_region 14 with (refine wpList_ldT rfl _ rfl _ _ rfl HG8.out rfl ?_)
            have kl := set5_kp W8 w.heap.size (.slice ao8 n8 cap8) (.int .i64 (d8.room : Int)) (.bool d8.fuse.isSome) (.int .i64 left8) (.bool d8.dead)
            have hb := set7 B8.out.box (.slice ao8 n8 cap8) (.int .i64 (d8.room : Int)) (.bool d8.fuse.isSome) (.int .i64 left8) (.bool d8.dead)
            obtain ⟨W20, hWn⟩ : ∃ W, W = (((((W8.setCell ⟨w.heap.size, 0, none⟩ (.slice ao8 n8 cap8)).setCell ⟨w.heap.size, 1, none⟩ (.int .i64 (d8.room : Int))).setCell ⟨w.heap.size, 2, none⟩ (.bool d8.fuse.isSome)).setCell ⟨w.heap.size, 3, none⟩ (.int .i64 left8)).setCell ⟨w.heap.size, 4, none⟩ (.bool d8.dead)) := ⟨_, rfl⟩
            rw [← hWn] at kl hb ⊢
            have B20 := Lib.hid (B8.out.put kl hb)
            have HT20 := Lib.hid (HT8.out.shun B8.out.box (by decide) (noU8_A _ _ _ _ _ _ _ _ _) kl)
            clear kl hb hWn e0 e1 e2 e3 e4 e5 e6 f0 f1 f2 f3 f4 f5 f6
            go_wp2_with (first | (refine wpList_ld14 rfl _ rfl _ _ rfl B20.out.box rfl ?_) | (refine wpList_st14 rfl _ _ rfl _ _ _ _ _ _ _ _ _ rfl rfl B20.out.ans rfl ⟨rfl, rfl, rfl, rfl, rfl, rfl, rfl⟩ ?_; intro w9 hg9 k9 z9))
            have K9 := B20.out.kp.trans (k9.shed (B' := w.heap.size) (by simp) (by have := B20.out.size; omega))
            have T9 := HT20.out.shun B20.out.ans (by decide) noU8_0 k9
            (try simp only [Exit.inBlock, Exit.then])
            refine bodyPost_ret (YtdabflkejhoghaaGreat.HW.results_ct rfl _ _ (w.heap.size + 1) 35 _ (0, 0) _ rfl hg9 Tryz.underlying35 rfl infoT14) rfl ?_
            rw [HAP.out]
            exact ⟨_, rfl, ⟨_, _, _, _, rfl, T9, hq⟩, K9⟩
          | true =>
            have HAP : Hid ((Lg.mk d q false).pack b = (⟨d6, q, true⟩, 22)) := by show _ = _; rw [HAP0.out (d6, false) (by unfold Dk.packD; rw [andD_true (r := d.goneD sNext) (by rw [HD4.out]), HD4.out]; simp only; rw [HD6.out, andD_false (r := (d6, false)) rfl])]; simp [hdd]
            rw [hdd] at t4
            clear hdd HAP0
            go_upto_region 15 with fail
            clear t0 t1 t2 t3 t4
            obtain ⟨e0, e1, e2, e3, e4, e5, e6⟩ := boxA B10.out.box
            obtain ⟨f0, f1, f2, f3, f4, f5, f6⟩ := frA B10.out.box
            go_upto_region 20 with (refine wpList_ldT rfl _ rfl _ _ rfl HG10.out rfl ?_)
            have kl := set5_kp w10 w.heap.size (.slice ao6 n6 cap6) (.int .i64 (d6.room : Int)) (.bool d6.fuse.isSome) (.int .i64 left6) (.bool d6.dead)
            have hb := set7 B10.out.box (.slice ao6 n6 cap6) (.int .i64 (d6.room : Int)) (.bool d6.fuse.isSome) (.int .i64 left6) (.bool d6.dead)
            obtain ⟨W20, hWn⟩ : ∃ W, W = (((((w10.setCell ⟨w.heap.size, 0, none⟩ (.slice ao6 n6 cap6)).setCell ⟨w.heap.size, 1, none⟩ (.int .i64 (d6.room : Int))).setCell ⟨w.heap.size, 2, none⟩ (.bool d6.fuse.isSome)).setCell ⟨w.heap.size, 3, none⟩ (.int .i64 left6)).setCell ⟨w.heap.size, 4, none⟩ (.bool d6.dead)) := ⟨_, rfl⟩
            rw [← hWn] at kl hb ⊢
            have B20 := Lib.hid (B10.out.put kl hb)
            have HT20 := Lib.hid (HT10.out.shun B10.out.box (by decide) (noU8_A _ _ _ _ _ _ _ _ _) kl)
            clear kl hb hWn e0 e1 e2 e3 e4 e5 e6 f0 f1 f2 f3 f4 f5 f6
            obtain ⟨e0, e1, e2, e3, e4, e5, e6⟩ := boxA B20.out.box
            obtain ⟨f0, f1, f2, f3, f4, f5, f6⟩ := frA B20.out.box
            go_upto_region 22 with fail
            have kl : Kp [w.heap.size] W20.heap.size W20 (W20.setCell ⟨w.heap.size, 6, none⟩ (.bool true)) := (Kp.refl _ _ _).setCell (.inr (by simp)) 6 none _
            have hb := set76 B20.out.box (.bool true)
            obtain ⟨W99, hWn⟩ : ∃ W, W = W20.setCell ⟨w.heap.size, 6, none⟩ (.bool true) := ⟨_, rfl⟩
            rw [← hWn] at kl hb ⊢
            have B99 := Lib.hid (B20.out.put kl hb)
            have HT99 := Lib.hid (HT20.out.shun B20.out.box (by decide) (noU8_A _ _ _ _ _ _ _ _ _) kl)
            clear kl hb hWn e0 e1 e2 e3 e4 e5 e6 f0 f1 f2 f3 f4 f5 f6
            go_wp2_with (first | (refine wpList_ld14 rfl _ rfl _ _ rfl B99.out.box rfl ?_) | (refine wpList_st14 rfl _ _ rfl _ _ _ _ _ _ _ _ _ rfl rfl B99.out.ans rfl ⟨rfl, rfl, rfl, rfl, rfl, rfl, rfl⟩ ?_; intro w9 hg9 k9 z9))
            have K9 := B99.out.kp.trans (k9.shed (B' := w.heap.size) (by simp) (by have := B99.out.size; omega))
            have T9 := HT99.out.shun B99.out.ans (by decide) noU8_0 k9
            (try simp only [Exit.inBlock, Exit.then])
            refine bodyPost_ret (YtdabflkejhoghaaGreat.HW.results_ct rfl _ _ (w.heap.size + 1) 35 _ (0, 0) _ rfl hg9 Tryz.underlying35 rfl infoT14) rfl ?_
            rw [HAP.out]
            exact ⟨_, rfl, ⟨_, _, _, _, rfl, T9, hq⟩, K9⟩
        | true =>
          go_upto_region 16 with fail
          clear t0 t1 t2 t3 t4
          go_wp2_with (refine wpList_ldT rfl _ rfl _ _ rfl HG10.out rfl ?_)
          refine (r14gone d6 _ sLog w10 HT10.out).mono ?_
          rintro e w8 ⟨v8, rfl, h8, k8⟩
          obtain ⟨ao8, n8, cap8, left8, rfl, -⟩ := h8.form
          obtain ⟨d8, hd8⟩ : ∃ d8, d8 = (d6.goneD sLog).1 := ⟨_, rfl⟩
          obtain ⟨q8, hq8⟩ : ∃ q8, q8 = (d6.goneD sLog).2 := ⟨_, rfl⟩
          rw [← hd8] at h8 ⊢
          rw [← hq8]
          have HD8 : Hid (d6.goneD sLog = (d8, q8)) := by show _ = _; rw [hd8, hq8]
          have B8 := Lib.hid ((B10.out.next k8).next (kp1 w8 (.cells #[.slice ao8 n8 cap8, .int .i64 (d8.room : Int), .bool d8.fuse.isSome, .int .i64 left8, .bool d8.dead] 31)))
          have HT8 := Lib.hid (h8.kp (kp1 w8 (.cells #[.slice ao8 n8 cap8, .int .i64 (d8.room : Int), .bool d8.fuse.isSome, .int .i64 left8, .bool d8.dead] 31)))
          have hg8 := World.alloc_heap_new w8 (.cells #[.slice ao8 n8 cap8, .int .i64 (d8.room : Int), .bool d8.fuse.isSome, .int .i64 left8, .bool d8.dead] 31)
          have hs8 : w.heap.size + 2 ≤ w8.heap.size := (B10.out.next k8).size
          have HG18 := Lib.hid (((kp1 w8 (.cells #[.slice ao8 n8 cap8, .int .i64 (d8.room : Int), .bool d8.fuse.isSome, .int .i64 left8, .bool d8.dead] 31)).block g4 (Nat.lt_of_lt_of_le hgl10 k8.size) (by simp)).trans ((k8.block g4 hgl10 (by simp)).trans HG10.out))
          clear h8 k8 hd8 hq8
          go_upto_region 17 with fail
          obtain ⟨W8, hW8⟩ : ∃ W8, W8 = w8.alloc (.cells #[.slice ao8 n8 cap8, .int .i64 (d8.room : Int), .bool d8.fuse.isSome, .int .i64 left8, .bool d8.dead] 31) := ⟨_, rfl⟩
          obtain ⟨g8, hge8⟩ : ∃ g8, g8 = w8.heap.size := ⟨_, rfl⟩
          rw [← hW8] at B8 HT8 hg8 HG18 ⊢
          rw [← hge8] at hg8 hs8 ⊢
          have HG8 := Lib.hid hg8
          have hgl8 : g8 < W8.heap.size := (Array.getElem?_eq_some_iff.1 hg8).1
          clear hW8 hg8 hge8
          go_upto_region 18 with (first | (refine wpList_ldT rfl _ rfl _ _ rfl HG8.out rfl ?_) | (refine wpList_stT rfl _ _ rfl _ _ _ _ _ _ _ rfl rfl HG18.out rfl ⟨rfl, rfl, rfl, rfl, rfl⟩ ?_; intro w12 hgn kn zn))
          have B12 := Lib.hid (B8.out.nextG kn hs4)
          have HT12 := Lib.hid (HT8.out.shun HG18.out (by decide) (noU8_T _ _ _ _ _ _ _) kn)
          have HG12 := Lib.hid hgn
          have hgl12 : g4 < w12.heap.size := (Array.getElem?_eq_some_iff.1 hgn).1
          clear hgn kn zn
          clear HG18 HG8 HG10 B8 HT8 B10 HT10
          obtain ⟨e0, e1, e2, e3, e4, e5, e6⟩ := boxA B12.out.box
          obtain ⟨f0, f1, f2, f3, f4, f5, f6⟩ := frA B12.out.box
          go_upto_region 20 with (refine wpList_ldT rfl _ rfl _ _ rfl HG12.out rfl ?_)
          have kl := set5_kp w12 w.heap.size (.slice ao8 n8 cap8) (.int .i64 (d8.room : Int)) (.bool d8.fuse.isSome) (.int .i64 left8) (.bool d8.dead)
          have hb := set7 B12.out.box (.slice ao8 n8 cap8) (.int .i64 (d8.room : Int)) (.bool d8.fuse.isSome) (.int .i64 left8) (.bool d8.dead)
          obtain ⟨W20, hWn⟩ : ∃ W, W = (((((w12.setCell ⟨w.heap.size, 0, none⟩ (.slice ao8 n8 cap8)).setCell ⟨w.heap.size, 1, none⟩ (.int .i64 (d8.room : Int))).setCell ⟨w.heap.size, 2, none⟩ (.bool d8.fuse.isSome)).setCell ⟨w.heap.size, 3, none⟩ (.int .i64 left8)).setCell ⟨w.heap.size, 4, none⟩ (.bool d8.dead)) := ⟨_, rfl⟩
          rw [← hWn] at kl hb ⊢
          have B20 := Lib.hid (B12.out.put kl hb)
          have HT20 := Lib.hid (HT12.out.shun B12.out.box (by decide) (noU8_A _ _ _ _ _ _ _ _ _) kl)
          clear kl hb hWn e0 e1 e2 e3 e4 e5 e6 f0 f1 f2 f3 f4 f5 f6
          cases q8 with
          | false =>
            have hdd := gone_dies (d := d6) (nm := sLog) (by rw [HD8.out])
            rw [HD8.out] at hdd
            have HAP : Hid ((Lg.mk d q false).pack b = (⟨d8, q, true⟩, 22)) := by show _ = _; rw [HAP0.out (d8, false) (by unfold Dk.packD; rw [andD_true (r := d.goneD sNext) (by rw [HD4.out]), HD4.out]; simp only; rw [HD6.out, andD_true (r := (d6, true)) rfl]; exact HD8.out)]; simp at hdd; simp [hdd]
            clear HAP0 hdd
            obtain ⟨e0, e1, e2, e3, e4, e5, e6⟩ := boxA B20.out.box
            obtain ⟨f0, f1, f2, f3, f4, f5, f6⟩ := frA B20.out.box
            go_upto_region 22 with fail
            have kl : Kp [w.heap.size] W20.heap.size W20 (W20.setCell ⟨w.heap.size, 6, none⟩ (.bool true)) := (Kp.refl _ _ _).setCell (.inr (by simp)) 6 none _
            have hb := set76 B20.out.box (.bool true)
            obtain ⟨W99, hWn⟩ : ∃ W, W = W20.setCell ⟨w.heap.size, 6, none⟩ (.bool true) := ⟨_, rfl⟩
            rw [← hWn] at kl hb ⊢
            have B99 := Lib.hid (B20.out.put kl hb)
            have HT99 := Lib.hid (HT20.out.shun B20.out.box (by decide) (noU8_A _ _ _ _ _ _ _ _ _) kl)
            clear kl hb hWn e0 e1 e2 e3 e4 e5 e6 f0 f1 f2 f3 f4 f5 f6
            go_wp2_with (first | (refine wpList_ld14 rfl _ rfl _ _ rfl B99.out.box rfl ?_) | (refine wpList_st14 rfl _ _ rfl _ _ _ _ _ _ _ _ _ rfl rfl B99.out.ans rfl ⟨rfl, rfl, rfl, rfl, rfl, rfl, rfl⟩ ?_; intro w9 hg9 k9 z9))
            have K9 := B99.out.kp.trans (k9.shed (B' := w.heap.size) (by simp) (by have := B99.out.size; omega))
            have T9 := HT99.out.shun B99.out.ans (by decide) noU8_0 k9
            (try simp only [Exit.inBlock, Exit.then])
            refine bodyPost_ret (YtdabflkejhoghaaGreat.HW.results_ct rfl _ _ (w.heap.size + 1) 35 _ (0, 0) _ rfl hg9 Tryz.underlying35 rfl infoT14) rfl ?_
            rw [HAP.out]
            exact ⟨_, rfl, ⟨_, _, _, _, rfl, T9, hq⟩, K9⟩
          | true =>
            have HAP : Hid ((Lg.mk d q false).pack b = (⟨d8, q, false⟩, 0)) := by show _ = _; rw [HAP0.out (d8, true) (by unfold Dk.packD; rw [andD_true (r := d.goneD sNext) (by rw [HD4.out]), HD4.out]; simp only; rw [HD6.out, andD_true (r := (d6, true)) rfl]; exact HD8.out)]; simp
            clear HAP0
            go_wp2_with (first | (refine wpList_ld14 rfl _ rfl _ _ rfl B20.out.box rfl ?_) | (refine wpList_st14 rfl _ _ rfl _ _ _ _ _ _ _ _ _ rfl rfl B20.out.ans rfl ⟨rfl, rfl, rfl, rfl, rfl, rfl, rfl⟩ ?_; intro w9 hg9 k9 z9))
            have K9 := B20.out.kp.trans (k9.shed (B' := w.heap.size) (by simp) (by have := B20.out.size; omega))
            have T9 := HT20.out.shun B20.out.ans (by decide) noU8_0 k9
            (try simp only [Exit.inBlock, Exit.then])
            refine bodyPost_ret (YtdabflkejhoghaaGreat.HW.results_ct rfl _ _ (w.heap.size + 1) 35 _ (0, 0) _ rfl hg9 Tryz.underlying35 rfl infoT14) rfl ?_
            rw [HAP.out]
            exact ⟨_, rfl, ⟨_, _, _, _, rfl, T9, hq⟩, K9⟩
end Go.Proofs.YtdabflkejhoghaaGreat.Hand
