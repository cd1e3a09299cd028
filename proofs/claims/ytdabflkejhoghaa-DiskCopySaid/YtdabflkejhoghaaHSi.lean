/- The reference's disk: Run. -/
import Derived.Below
import Derived.Deep.Draws
import Derived.Deep.AppendLies
import Derived.Maps.AppendAt
import Derived.OwnWalk
import Derived.Laws.BytesArg
import Derived.Laws.MakeOwn
import Derived.Laws.OwnMore
import Derived.Deep.OwnRows
import Derived.Tactics
import Derived.Lib.ConvBytes
import Derived.Laws.Slices
import Derived.WalkKit
import Derived.KernelRfl
import Derived.RowKit3
import Derived.Deep.LoopGhost
import Derived.Deep.QuietTactic
import Derived.BigQuiet
import Derived.WideLaws
import Derived.Deep.DeepCutAuto
import Derived.Deep.CutBlock
import Derived.Deep.RegionHeld3
import Derived.Laws.Rows
import Derived.Lib.AppendStr
import Derived.ArgAppend
import Derived.Laws.IdiomCopy
import Derived.OrdersHeld
import Derived.Laws.BitsLemmas
import Derived.RowKit
import Derived.Outline
import Derived.Maps.Own
import Derived.Maps.OwnOps
import Derived.Maps.OwnSet
import Derived.Maps.Views
import Derived.Maps.RangeWalk
import Derived.Maps.Ext
import Derived.RangeFuncOwn
import Derived.OneCell
import Derived.Deep.DeepMust
import Derived.Lib.Hide
import Derived.StillTailTactics
import Derived.Laws.AppendOwnNone
import Derived.WalkMore
import Derived.Lib.SlBytesConst
import Derived.WalkLawsBesides
import Derived.Laws.BitsAllLaws
import Derived.Test.YtdabflkejhoghaaWLast
import Derived.Test.YtdabflkejhoghaaHWa
import Derived.Test.YtdabflkejhoghaaHSd
namespace Go.Proofs.Ytdabflkejhoghaa.Hand
open Go Go.RowKit Go.Maps Go.WideMaps Go.Proofs.Ytdabflkejhoghaa.HW Go.Proofs.YtdabflkejhoghaaW.PrintLast
set_option linter.unusedVariables false
set_option linter.unusedSimpArgs false
/-- what is done: kinds 1 to 6 -/
def Dk.run (d : Dk) (k : Nat) (a z : List UInt8) (n : Int) (b : List UInt8) : Dk × Bool :=
  if k = 1 then d.append a b else if k = 2 then d.sync a else if k = 3 then d.rename a z else if k = 4 then d.drop a else if k = 5 then (d.setFuse n, true) else (d.crash n, true)
/-- the disk's box, the deed's, the answer's -/
structure BoxesD (w w3 : World) (x0 x1 x2 x3 x4 y0 y1 y2 y3 y4 : Value) : Prop where
  kp : Kp [] w.heap.size w w3
  size : w.heap.size + 3 ≤ w3.heap.size
  box : w3.heap[w.heap.size]? = some (.cells #[x0, x1, x2, x3, x4] 59 (0, 0))
  deed : w3.heap[w.heap.size + 1]? = some (.cells #[y0, y1, y2, y3, y4] 64 (0, 0))
  ans : w3.heap[w.heap.size + 2]? = some (.cells #[.slice none 0 0, .int .i64 0, .bool false, .int .i64 0, .bool false] 59 (0, 0))
theorem BoxesD.new (w : World) (x0 x1 x2 x3 x4 y0 y1 y2 y3 y4 : Value) : BoxesD w (((w.alloc (.cells #[x0, x1, x2, x3, x4] 59)).alloc (.cells #[y0, y1, y2, y3, y4] 64)).alloc (.cells #[.slice none 0 0, .int .i64 0, .bool false, .int .i64 0, .bool false] 59)) x0 x1 x2 x3 x4 y0 y1 y2 y3 y4 :=
  ⟨(kp2 w _ _).alloc (by simp; omega) _, by simp, (Below.heap_alloc _ _ _ (by simp; omega)).trans ((Below.heap_alloc _ _ _ (by simp)).trans (World.alloc_heap_new w _)), (Below.heap_alloc _ _ _ (by simp)).trans (new_at _ _ _ (by simp)), new_at _ _ _ (by simp)⟩
theorem BoxesD.next {w w3 w4 : World} {x0 x1 x2 x3 x4 y0 y1 y2 y3 y4 : Value} (h : BoxesD w w3 x0 x1 x2 x3 x4 y0 y1 y2 y3 y4) (k : Kp [] w3.heap.size w3 w4) : BoxesD w w4 x0 x1 x2 x3 x4 y0 y1 y2 y3 y4 :=
  ⟨h.kp.trans (k.mono (by simp) (by have := h.size; omega)), Nat.le_trans h.size k.size, (k.block _ (by have := h.size; omega) (by simp)).trans h.box, (k.block _ (by have := h.size; omega) (by simp)).trans h.deed, (k.block _ (by have := h.size; omega) (by simp)).trans h.ans⟩
set_option maxHeartbeats 8000000 in
set_option maxRecDepth 100000 in
/-- the reference's Run -/
theorem rRun {A : Nat → Prop} (d : Dk) (v : Value) (k : Nat) (a z b : List UInt8) (n : Int) (vb : Value) (w : World) (h : IsT w v d) (hb : BytesV w A vb b) (ha : a.length ≤ maxLen) (hz : z.length ≤ maxLen) (hbl : b.length ≤ 140737488355328) (hn : -9223372036854775808 ≤ n ∧ n ≤ 9223372036854775807) (hk : 1 ≤ k ∧ k ≤ 6) :
    Calls Try.prog 38 #[v, .agg #[.int .i64 (k : Int), .string ⟨a.toArray⟩, .string ⟨z.toArray⟩, .int .i64 n, vb]] w fun e w' => ∃ v', e = .returned (.tuple #[v', .bool (d.run k a z n b).2]) ∧ IsT w' v' (d.run k a z n b).1 ∧ Kp [] w.heap.size w w' := by
  have HH := Lib.hid h
  obtain ⟨ao, m, cap, left, rfl, -⟩ := h.form
  have HB := Lib.hid hb.low
  obtain ⟨bo, bc, rfl, -, -, -⟩ := id hb
  obtain ⟨bl, hbe⟩ : ∃ bl, bl = b.length := ⟨_, rfl⟩
  rw [← hbe] at HB hbl ⊢
  have HBE := Lib.hid hbe
  clear h hb hbe
  have B2 := Lib.hid (BoxesD.new w (.slice ao m cap) (.int .i64 (d.room : Int)) (.bool d.fuse.isSome) (.int .i64 left) (.bool d.dead) (.int .i64 (k : Int)) (.string ⟨a.toArray⟩) (.string ⟨z.toArray⟩) (.int .i64 n) (.slice bo bl bc))
  have hk6 : k = 1 ∨ k = 2 ∨ k = 3 ∨ k = 4 ∨ k = 5 ∨ k = 6 := by omega
  go_enter Try.func38, Try.ntmps38
  go_upto_region 1 with fail
  obtain ⟨W2, hW2⟩ : ∃ W2, W2 = ((w.alloc (.cells #[.slice ao m cap, .int .i64 (d.room : Int), .bool d.fuse.isSome, .int .i64 left, .bool d.dead] 59)).alloc (.cells #[.int .i64 (k : Int), .string ⟨a.toArray⟩, .string ⟨z.toArray⟩, .int .i64 n, .slice bo bl bc] 64)).alloc (.cells #[.slice none 0 0, .int .i64 0, .bool false, .int .i64 0, .bool false] 59) := ⟨_, rfl⟩
  rw [← hW2] at B2 ⊢
  clear hW2
  obtain ⟨e0, e1, e2, e3, e4⟩ := boxT B2.out.deed
  have HH2 := Lib.hid (HH.out.kp B2.out.kp)
  have HB2 := Lib.hid (HB.out.kp B2.out.kp (by simp))
  rcases hk6 with rfl | rfl | rfl | rfl | rfl | rfl
  · obtain ⟨r, hr⟩ : ∃ r, r = d.run 1 a z n b := ⟨_, rfl⟩
    have HR := Lib.hid hr
    clear hr
    go_wp2_with (refine wpList_ldT rfl _ rfl _ _ rfl B2.out.box rfl ?_)
    refine (rAppend d _ a b _ W2 HH2.out HB2.out ha (by rw [← HBE.out]; exact hbl)).mono ?_
    rintro e w4 ⟨v4, rfl, h4, k4⟩
    obtain ⟨ao4, n4, cap4, left4, rfl, -⟩ := h4.form
    rw [show d.append a b = r from HR.out.symm] at h4 ⊢
    obtain ⟨d4, q4⟩ := r
    simp only at h4 ⊢
    have HR2 := Lib.hid HR.out.symm
    have HT4 := Lib.hid h4
    have B4 := Lib.hid (B2.out.next k4)
    have B5 := Lib.hid (B4.out.next (kp1 w4 (.cells #[.slice ao4 n4 cap4, .int .i64 (d4.room : Int), .bool d4.fuse.isSome, .int .i64 left4, .bool d4.dead] 59)))
    clear h4 k4 e0 e1 e2 e3 e4 HR
    go_wp2_with (first | (refine wpList_stT rfl _ _ rfl _ _ _ _ _ _ _ rfl rfl B5.out.ans rfl ⟨rfl, rfl, rfl, rfl, rfl⟩ ?_; intro w5 hg5 k5 z5) | (refine wpList_ldT rfl _ rfl _ _ rfl (World.alloc_heap_new w4 _) rfl ?_))
    have HT5 := (HT4.out.kp (kp1 w4 (.cells #[.slice ao4 n4 cap4, .int .i64 (d4.room : Int), .bool d4.fuse.isSome, .int .i64 left4, .bool d4.dead] 59))).shun B5.out.ans (by decide) (noU8_T _ _ _ _ _ _ _) k5
    have K5 := B5.out.kp.trans (k5.shed (B' := w.heap.size) (by simp <;> omega) (by have := B5.out.size; omega))
    (try simp only [Exit.inBlock, Exit.then])
    refine bodyPost_ret (Ytdabflkejhoghaa.HW.results_ct rfl _ _ (w.heap.size + 2) 59 _ (0, 0) _ rfl hg5 Try.underlying59 rfl infoT) rfl ?_
    rw [HR2.out]
    exact ⟨_, rfl, HT5, K5⟩
  · obtain ⟨r, hr⟩ : ∃ r, r = d.run 2 a z n b := ⟨_, rfl⟩
    have HR := Lib.hid hr
    clear hr
    go_wp2_with (refine wpList_ldT rfl _ rfl _ _ rfl B2.out.box rfl ?_)
    refine (rSync d _ a W2 HH2.out).mono ?_
    rintro e w4 ⟨v4, rfl, h4, k4⟩
    obtain ⟨ao4, n4, cap4, left4, rfl, -⟩ := h4.form
    rw [show d.sync a = r from HR.out.symm] at h4 ⊢
    obtain ⟨d4, q4⟩ := r
    simp only at h4 ⊢
    have HR2 := Lib.hid HR.out.symm
    have HT4 := Lib.hid h4
    have B4 := Lib.hid (B2.out.next k4)
    have B5 := Lib.hid (B4.out.next (kp1 w4 (.cells #[.slice ao4 n4 cap4, .int .i64 (d4.room : Int), .bool d4.fuse.isSome, .int .i64 left4, .bool d4.dead] 59)))
    clear h4 k4 e0 e1 e2 e3 e4 HR
    go_wp2_with (first | (refine wpList_stT rfl _ _ rfl _ _ _ _ _ _ _ rfl rfl B5.out.ans rfl ⟨rfl, rfl, rfl, rfl, rfl⟩ ?_; intro w5 hg5 k5 z5) | (refine wpList_ldT rfl _ rfl _ _ rfl (World.alloc_heap_new w4 _) rfl ?_))
    have HT5 := (HT4.out.kp (kp1 w4 (.cells #[.slice ao4 n4 cap4, .int .i64 (d4.room : Int), .bool d4.fuse.isSome, .int .i64 left4, .bool d4.dead] 59))).shun B5.out.ans (by decide) (noU8_T _ _ _ _ _ _ _) k5
    have K5 := B5.out.kp.trans (k5.shed (B' := w.heap.size) (by simp <;> omega) (by have := B5.out.size; omega))
    (try simp only [Exit.inBlock, Exit.then])
    refine bodyPost_ret (Ytdabflkejhoghaa.HW.results_ct rfl _ _ (w.heap.size + 2) 59 _ (0, 0) _ rfl hg5 Try.underlying59 rfl infoT) rfl ?_
    rw [HR2.out]
    exact ⟨_, rfl, HT5, K5⟩
  · obtain ⟨r, hr⟩ : ∃ r, r = d.run 3 a z n b := ⟨_, rfl⟩
    have HR := Lib.hid hr
    clear hr
    go_wp2_with (refine wpList_ldT rfl _ rfl _ _ rfl B2.out.box rfl ?_)
    refine (rRename d _ a z W2 HH2.out hz).mono ?_
    rintro e w4 ⟨v4, rfl, h4, k4⟩
    obtain ⟨ao4, n4, cap4, left4, rfl, -⟩ := h4.form
    rw [show d.rename a z = r from HR.out.symm] at h4 ⊢
    obtain ⟨d4, q4⟩ := r
    simp only at h4 ⊢
    have HR2 := Lib.hid HR.out.symm
    have HT4 := Lib.hid h4
    have B4 := Lib.hid (B2.out.next k4)
    have B5 := Lib.hid (B4.out.next (kp1 w4 (.cells #[.slice ao4 n4 cap4, .int .i64 (d4.room : Int), .bool d4.fuse.isSome, .int .i64 left4, .bool d4.dead] 59)))
    clear h4 k4 e0 e1 e2 e3 e4 HR
    go_wp2_with (first | (refine wpList_stT rfl _ _ rfl _ _ _ _ _ _ _ rfl rfl B5.out.ans rfl ⟨rfl, rfl, rfl, rfl, rfl⟩ ?_; intro w5 hg5 k5 z5) | (refine wpList_ldT rfl _ rfl _ _ rfl (World.alloc_heap_new w4 _) rfl ?_))
    have HT5 := (HT4.out.kp (kp1 w4 (.cells #[.slice ao4 n4 cap4, .int .i64 (d4.room : Int), .bool d4.fuse.isSome, .int .i64 left4, .bool d4.dead] 59))).shun B5.out.ans (by decide) (noU8_T _ _ _ _ _ _ _) k5
    have K5 := B5.out.kp.trans (k5.shed (B' := w.heap.size) (by simp <;> omega) (by have := B5.out.size; omega))
    (try simp only [Exit.inBlock, Exit.then])
    refine bodyPost_ret (Ytdabflkejhoghaa.HW.results_ct rfl _ _ (w.heap.size + 2) 59 _ (0, 0) _ rfl hg5 Try.underlying59 rfl infoT) rfl ?_
    rw [HR2.out]
    exact ⟨_, rfl, HT5, K5⟩
  · obtain ⟨r, hr⟩ : ∃ r, r = d.run 4 a z n b := ⟨_, rfl⟩
    have HR := Lib.hid hr
    clear hr
    go_wp2_with (refine wpList_ldT rfl _ rfl _ _ rfl B2.out.box rfl ?_)
    refine (rDrop d _ a W2 HH2.out).mono ?_
    rintro e w4 ⟨v4, rfl, h4, k4⟩
    obtain ⟨ao4, n4, cap4, left4, rfl, -⟩ := h4.form
    rw [show d.drop a = r from HR.out.symm] at h4 ⊢
    obtain ⟨d4, q4⟩ := r
    simp only at h4 ⊢
    have HR2 := Lib.hid HR.out.symm
    have HT4 := Lib.hid h4
    have B4 := Lib.hid (B2.out.next k4)
    have B5 := Lib.hid (B4.out.next (kp1 w4 (.cells #[.slice ao4 n4 cap4, .int .i64 (d4.room : Int), .bool d4.fuse.isSome, .int .i64 left4, .bool d4.dead] 59)))
    clear h4 k4 e0 e1 e2 e3 e4 HR
    go_wp2_with (first | (refine wpList_stT rfl _ _ rfl _ _ _ _ _ _ _ rfl rfl B5.out.ans rfl ⟨rfl, rfl, rfl, rfl, rfl⟩ ?_; intro w5 hg5 k5 z5) | (refine wpList_ldT rfl _ rfl _ _ rfl (World.alloc_heap_new w4 _) rfl ?_))
    have HT5 := (HT4.out.kp (kp1 w4 (.cells #[.slice ao4 n4 cap4, .int .i64 (d4.room : Int), .bool d4.fuse.isSome, .int .i64 left4, .bool d4.dead] 59))).shun B5.out.ans (by decide) (noU8_T _ _ _ _ _ _ _) k5
    have K5 := B5.out.kp.trans (k5.shed (B' := w.heap.size) (by simp <;> omega) (by have := B5.out.size; omega))
    (try simp only [Exit.inBlock, Exit.then])
    refine bodyPost_ret (Ytdabflkejhoghaa.HW.results_ct rfl _ _ (w.heap.size + 2) 59 _ (0, 0) _ rfl hg5 Try.underlying59 rfl infoT) rfl ?_
    rw [HR2.out]
    exact ⟨_, rfl, HT5, K5⟩
  · have HR : Hid (d.run 5 a z n b = (d.setFuse n, true)) := by show _ = _; unfold Dk.run; simp
    go_wp2_with (refine wpList_ldT rfl _ rfl _ _ rfl B2.out.box rfl ?_)
    refine (rFuse d _ n W2 HH2.out hn).mono ?_
    rintro e w4 ⟨v4, rfl, h4, k4⟩
    obtain ⟨ao4, n4, cap4, left4, rfl, -⟩ := h4.form
    obtain ⟨d4, hd4⟩ : ∃ d4, d4 = d.setFuse n := ⟨_, rfl⟩
    rw [← hd4] at h4 HR ⊢
    have HT4 := Lib.hid h4
    have B4 := Lib.hid (B2.out.next k4)
    clear h4 k4 hd4 e0 e1 e2 e3 e4
    go_wp2_with (refine wpList_stT rfl _ _ rfl _ _ _ _ _ _ _ rfl rfl B4.out.ans rfl ⟨rfl, rfl, rfl, rfl, rfl⟩ ?_; intro w5 hg5 k5 z5)
    have HT5 := HT4.out.shun B4.out.ans (by decide) (noU8_T _ _ _ _ _ _ _) k5
    have K5 := B4.out.kp.trans (k5.shed (B' := w.heap.size) (by simp <;> omega) (by have := B4.out.size; omega))
    (try simp only [Exit.inBlock, Exit.then])
    refine bodyPost_ret (Ytdabflkejhoghaa.HW.results_ct rfl _ _ (w.heap.size + 2) 59 _ (0, 0) _ rfl hg5 Try.underlying59 rfl infoT) rfl ?_
    rw [HR.out]
    exact ⟨_, rfl, HT5, K5⟩
  · have HR : Hid (d.run 6 a z n b = (d.crash n, true)) := by show _ = _; unfold Dk.run; simp
    go_wp2_with (refine wpList_ldT rfl _ rfl _ _ rfl B2.out.box rfl ?_)
    refine (rCrash d _ n W2 HH2.out hn).mono ?_
    rintro e w4 ⟨v4, rfl, h4, k4⟩
    obtain ⟨ao4, n4, cap4, left4, rfl, -⟩ := h4.form
    obtain ⟨d4, hd4⟩ : ∃ d4, d4 = d.crash n := ⟨_, rfl⟩
    rw [← hd4] at h4 HR ⊢
    have HT4 := Lib.hid h4
    have B4 := Lib.hid (B2.out.next k4)
    clear h4 k4 hd4 e0 e1 e2 e3 e4
    go_wp2_with (refine wpList_stT rfl _ _ rfl _ _ _ _ _ _ _ rfl rfl B4.out.ans rfl ⟨rfl, rfl, rfl, rfl, rfl⟩ ?_; intro w5 hg5 k5 z5)
    have HT5 := HT4.out.shun B4.out.ans (by decide) (noU8_T _ _ _ _ _ _ _) k5
    have K5 := B4.out.kp.trans (k5.shed (B' := w.heap.size) (by simp <;> omega) (by have := B4.out.size; omega))
    (try simp only [Exit.inBlock, Exit.then])
    refine bodyPost_ret (Ytdabflkejhoghaa.HW.results_ct rfl _ _ (w.heap.size + 2) 59 _ (0, 0) _ rfl hg5 Try.underlying59 rfl infoT) rfl ?_
    rw [HR.out]
    exact ⟨_, rfl, HT5, K5⟩
end Go.Proofs.Ytdabflkejhoghaa.Hand
