/- The reference's disk: Rename. -/
import Derived.Below
import Derived.Deep.Draws
import Derived.Deep.AppendLies
import Derived.Maps.AppendAt
import Derived.OwnWalk
import Derived.Laws.BytesArg
import Derived.Laws.MakeOwn
import Derived.Laws.OwnMore
import Derived.Deep.OwnRows
import Derived.Tactics
import Derived.Lib.ConvBytes
import Derived.Laws.Slices
import Derived.WalkKit
import Derived.KernelRfl
import Derived.RowKit3
import Derived.Deep.LoopGhost
import Derived.Deep.QuietTactic
import Derived.BigQuiet
import Derived.WideLaws
import Derived.Deep.DeepCutAuto
import Derived.Deep.CutBlock
import Derived.Deep.RegionHeld3
import Derived.Laws.Rows
import Derived.Lib.AppendStr
import Derived.ArgAppend
import Derived.Laws.IdiomCopy
import Derived.OrdersHeld
import Derived.Laws.BitsLemmas
import Derived.RowKit
import Derived.Outline
import Derived.Maps.Own
import Derived.Maps.OwnOps
import Derived.Maps.OwnSet
import Derived.Maps.Views
import Derived.Maps.RangeWalk
import Derived.Maps.Ext
import Derived.RangeFuncOwn
import Derived.OneCell
import Derived.Deep.DeepMust
import Derived.Lib.Hide
import Derived.StillTailTactics
import Derived.Laws.AppendOwnNone
import Derived.WalkMore
import Derived.Lib.SlBytesConst
import Derived.WalkLawsBesides
import Derived.Laws.BitsAllLaws
import Derived.Test.YtdabflkejhoghaaGreatHRz
namespace Go.Proofs.YtdabflkejhoghaaGreat.Hand
open Go Go.RowKit Go.Maps Go.WideMaps
set_option linter.unusedVariables false
set_option linter.unusedSimpArgs false
theorem ren_none {d : Dk} {s tn : List UInt8} (h : d.look s = none) : d.rename s tn = (d, false) := by unfold Dk.rename; rw [h]
theorem ren_bad {d : Dk} {s tn : List UInt8} (h : named tn = false) : d.rename s tn = (d, false) := by
  unfold Dk.rename; cases d.look s with
  | none => rfl
  | some f => simp [h]
theorem ren_some {d : Dk} {s tn : List UInt8} {f : F} (h : d.look s = some f) (hn : named tn = true) : d.rename s tn = if d.step.2 = true then (d.step.1.moved f tn, true) else (d.step.1, false) := by unfold Dk.rename; rw [h]; simp [hn]
/-- what the first rows of these functions leave: the disk's box, the box of the answer -/
structure Boxes (w w3 : World) (x0 x1 x2 x3 x4 : Value) : Prop where
  kp : Kp [] w.heap.size w w3
  size : w.heap.size + 2 ≤ w3.heap.size
  box : w3.heap[w.heap.size]? = some (.cells #[x0, x1, x2, x3, x4] 31 (0, 0))
  ans : w3.heap[w.heap.size + 1]? = some (.cells #[.slice none 0 0, .int .i64 0, .bool false, .int .i64 0, .bool false] 31 (0, 0))
theorem Boxes.new (w : World) (x0 x1 x2 x3 x4 : Value) : Boxes w ((w.alloc (.cells #[x0, x1, x2, x3, x4] 31)).alloc (.cells #[.slice none 0 0, .int .i64 0, .bool false, .int .i64 0, .bool false] 31)) x0 x1 x2 x3 x4 :=
  ⟨kp2 _ _ _, by simp, (Below.heap_alloc _ _ _ (by simp)).trans (World.alloc_heap_new w _), new_at _ _ _ (by simp)⟩
theorem Boxes.next {w w3 w4 : World} {x0 x1 x2 x3 x4 : Value} (h : Boxes w w3 x0 x1 x2 x3 x4) (k : Kp [] w3.heap.size w3 w4) : Boxes w w4 x0 x1 x2 x3 x4 :=
  ⟨h.kp.trans (k.mono (by simp) (by have := h.size; omega)), Nat.le_trans h.size k.size, (k.block _ (by have := h.size; omega) (by simp)).trans h.box, (k.block _ (by have := h.size; omega) (by simp)).trans h.ans⟩
theorem Boxes.cells {w w3 : World} {x0 x1 x2 x3 x4 : Value} (h : Boxes w w3 x0 x1 x2 x3 x4) : w3.cell? ⟨w.heap.size, 0, none⟩ = some x0 ∧ w3.cell? ⟨w.heap.size, 1, none⟩ = some x1 ∧ w3.cell? ⟨w.heap.size, 2, none⟩ = some x2 ∧ w3.cell? ⟨w.heap.size, 3, none⟩ = some x3 ∧ w3.cell? ⟨w.heap.size, 4, none⟩ = some x4 := boxT h.box
theorem set5_kp (w : World) (r : Nat) (v0 v1 v2 v3 v4 : Value) : Kp [r] w.heap.size w (((((w.setCell ⟨r, 0, none⟩ v0).setCell ⟨r, 1, none⟩ v1).setCell ⟨r, 2, none⟩ v2).setCell ⟨r, 3, none⟩ v3).setCell ⟨r, 4, none⟩ v4) :=
  (((((Kp.refl [r] w.heap.size w).setCell (b := r) (.inr (by simp)) 0 none v0).setCell (b := r) (.inr (by simp)) 1 none v1).setCell (b := r) (.inr (by simp)) 2 none v2).setCell (b := r) (.inr (by simp)) 3 none v3).setCell (b := r) (.inr (by simp)) 4 none v4
set_option maxHeartbeats 8000000 in
set_option maxRecDepth 100000 in
theorem rRename (d : Dk) (v : Value) (s tn : List UInt8) (w : World) (h : IsT w v d) (hto : tn.length ≤ maxLen) :
    Calls Tryz.prog 68 #[v, .string ⟨s.toArray⟩, .string ⟨tn.toArray⟩] w fun e w' => ∃ v', e = .returned (.tuple #[v', .bool (d.rename s tn).2]) ∧ IsT w' v' (d.rename s tn).1 ∧ Kp [] w.heap.size w w' := by
  have HH := Lib.hid h
  obtain ⟨fv, left, rfl, hf, hl1, hl2, hl3, hok⟩ := h
  obtain ⟨ao, cap, rfl, -, -⟩ := hf.shape
  obtain ⟨m, hm⟩ : ∃ m, m = d.files.length := ⟨_, rfl⟩
  have hm8 : m ≤ 8 := by rw [hm]; exact hok.few
  have HFW : Hid (FilesR w 0 (.slice ao m cap) d.files) := by rw [hm]; exact hf
  rw [← hm] at HH ⊢
  have HM := Lib.hid hm
  clear hf hl1 hok hm
  go_enter Tryz.func68, Tryz.ntmps68
  go_wp2_with fail
  have B2 := Lib.hid (Boxes.new w (.slice ao m cap) (.int .i64 (d.room : Int)) (.bool d.fuse.isSome) (.int .i64 left) (.bool d.dead))
  obtain ⟨W2, hW2⟩ : ∃ W2, W2 = (w.alloc (.cells #[.slice ao m cap, .int .i64 (d.room : Int), .bool d.fuse.isSome, .int .i64 left, .bool d.dead] 31)).alloc (.cells #[.slice none 0 0, .int .i64 0, .bool false, .int .i64 0, .bool false] 31) := ⟨_, rfl⟩
  rw [← hW2] at B2 ⊢
  clear hW2
  refine (rfind d _ s W2 (HH.out.kp B2.out.kp)).mono ?_
  rintro e w3 ⟨rfl, k3⟩
  have B3 := Lib.hid (B2.out.next k3)
  have HH3 := Lib.hid (HH.out.kp B3.out.kp)
  clear k3
  rcases findI_look (d := d) (s := s) with ⟨hlk, hfi⟩ | ⟨j, hj, hfi, hlk⟩
  · rw [hfi]
    have HDR := Lib.hid (ren_none (tn := tn) hlk)
    clear hlk hfi
    go_wp2_with (first | (refine wpList_ldT rfl _ rfl _ _ rfl B3.out.box rfl ?_) | (refine wpList_stT rfl _ _ rfl _ _ _ _ _ _ _ rfl rfl B3.out.ans rfl ⟨rfl, rfl, rfl, rfl, rfl⟩ ?_; intro w4 hg4 k4 z4))
    have K4 := B3.out.kp.trans (k4.shed (B' := w.heap.size) (by simp) (by have := B3.out.size; omega))
    (try simp only [Exit.inBlock, Exit.then])
    refine bodyPost_ret (YtdabflkejhoghaaGreat.HW.results_ct rfl _ _ (w.heap.size + 1) 31 _ (0, 0) _ rfl hg4 Tryz.underlying31 rfl infoT) rfl ?_
    rw [HDR.out]
    exact ⟨_, rfl, HH.out.kp K4, K4⟩
  · rw [hfi]
    have hj0 : decide ((j : Int) < 0) = false := decide_eq_false (by omega)
    cases hnm : named tn with
    | false =>
      have HDR := Lib.hid (ren_bad (d := d) (s := s) hnm)
      clear hlk hfi
      go_wp2_with fail
      refine (rname tn w3 hto).mono ?_
      rintro e w4 ⟨rfl, rfl⟩
      rw [hnm]
      go_wp2_with (first | (refine wpList_ldT rfl _ rfl _ _ rfl B3.out.box rfl ?_) | (refine wpList_stT rfl _ _ rfl _ _ _ _ _ _ _ rfl rfl B3.out.ans rfl ⟨rfl, rfl, rfl, rfl, rfl⟩ ?_; intro w4 hg4 k4 z4))
      have K4 := B3.out.kp.trans (k4.shed (B' := w.heap.size) (by simp) (by have := B3.out.size; omega))
      (try simp only [Exit.inBlock, Exit.then])
      refine bodyPost_ret (YtdabflkejhoghaaGreat.HW.results_ct rfl _ _ (w.heap.size + 1) 31 _ (0, 0) _ rfl hg4 Tryz.underlying31 rfl infoT) rfl ?_
      rw [HDR.out]
      exact ⟨_, rfl, HH.out.kp K4, K4⟩
    | true =>
      have HDR := Lib.hid (ren_some hlk hnm)
      have HLK := Lib.hid hlk
      have HFN := Lib.hid (Dk.look_mem hlk).2
      clear hlk hfi
      go_wp2_with fail
      refine (rname tn w3 hto).mono ?_
      rintro e w4 ⟨rfl, rfl⟩
      rw [hnm]
      go_wp2_with (refine wpList_ldT rfl _ rfl _ _ rfl B3.out.box rfl ?_)
      refine (rstepO d _ left w3 HH3.out).mono ?_
      rintro e w4 ⟨left4, rfl, hT4, k4⟩
      have HT4 := Lib.hid hT4
      obtain ⟨d4, hd4⟩ : ∃ d4, d4 = d.step.1 := ⟨_, rfl⟩
      rw [← hd4] at HT4 ⊢
      have HD4 := Lib.hid hd4
      have B4 := Lib.hid (B3.out.next k4)
      clear hT4 hd4 k4 B3 HH3 B2
      cases hs2 : d.step.2 with
      | false =>
        go_wp2_with (refine wpList_stT rfl _ _ rfl _ _ _ _ _ _ _ rfl rfl (B4.out.next (kp1 _ _)).ans rfl ⟨rfl, rfl, rfl, rfl, rfl⟩ ?_; intro w5 hg5 k5 z5)
        have K5 := (B4.out.next (kp1 _ _)).kp.trans (k5.shed (B' := w.heap.size) (by simp) (by have := B4.out.size; simp; omega))
        (try simp only [Exit.inBlock, Exit.then])
        refine bodyPost_ret (YtdabflkejhoghaaGreat.HW.results_ct rfl _ _ (w.heap.size + 1) 31 _ (0, 0) _ rfl hg5 Tryz.underlying31 rfl infoT) rfl ?_
        have e := HDR.out
        rw [hs2, if_neg (by simp)] at e
        rw [e, ← HD4.out]
        exact ⟨_, rfl, HT4.out _ (HFW.out.kp K5), K5⟩
      | true =>
        have hfs : d4.files = d.files := by rw [HD4.out]; exact d.step_files
        have hfew : d.files.length ≤ 8 := by have := HM.out; omega
        have B5 := Lib.hid (B4.out.next (kp1 w4 (.cells #[.slice ao m cap, .int .i64 (d4.room : Int), .bool d4.fuse.isSome, .int .i64 left4, .bool d4.dead] 31)))
        have hu5 := World.alloc_heap_new w4 (.cells #[.slice ao m cap, .int .i64 (d4.room : Int), .bool d4.fuse.isSome, .int .i64 left4, .bool d4.dead] 31)
        have hz5 : (w4.alloc (.cells #[.slice ao m cap, .int .i64 (d4.room : Int), .bool d4.fuse.isSome, .int .i64 left4, .bool d4.dead] 31)).heap.size = w4.heap.size + 1 := by simp
        go_upto_region 7 with fail
        obtain ⟨W5, hW5⟩ : ∃ W5, W5 = w4.alloc (.cells #[.slice ao m cap, .int .i64 (d4.room : Int), .bool d4.fuse.isSome, .int .i64 left4, .bool d4.dead] 31) := ⟨_, rfl⟩
        rw [← hW5] at B5 hu5 hz5 ⊢
        have HU5 := Lib.hid hu5
        clear hW5 hu5
        obtain ⟨e0, -, -, -, -⟩ := B5.out.cells
        obtain ⟨g, vb, hg0, -, hg, c0, c1, c2, hvb⟩ := HFW.out.at j hj
        obtain ⟨bb, capb, rfl, -, -, -⟩ := id hvb
        subst hg0
        have d0 := (B5.out.kp.cell (p := ⟨g, j * 3, none⟩) hg (by simp)).trans c0
        have d1 := (B5.out.kp.cell (p := ⟨g, j * 3 + 1, none⟩) hg (by simp)).trans c1
        have d2 := (B5.out.kp.cell (p := ⟨g, j * 3 + 2, none⟩) hg (by simp)).trans c2
        have HVB := Lib.hid hvb
        obtain ⟨fl, hfl⟩ : ∃ fl, fl = d.files[j].lasts := ⟨_, rfl⟩
        obtain ⟨bl, hbl⟩ : ∃ bl, bl = d.files[j].b.length := ⟨_, rfl⟩
        obtain ⟨fnm, hfnm⟩ : ∃ fnm, fnm = d.files[j].name := ⟨_, rfl⟩
        rw [← hfl] at d2
        rw [← hbl] at d1
        rw [← hfnm] at d0
        have HFL := Lib.hid hfl
        have HBL := Lib.hid hbl
        have hjm : (j : Int) < (m : Int) := by have := HM.out; omega
        have hj2 : 0 ≤ (j : Int) := by omega
        clear c0 c1 c2 hvb hfl hbl hfnm
        go_upto_region 9 with fail
        obtain ⟨W6, hW6⟩ : ∃ W6, W6 = W5.alloc (.cells #[.string ⟨tn.toArray⟩, .slice bb bl capb, .int .i64 (fl : Int)] 65) := ⟨_, rfl⟩
        have k56 : Kp [] W5.heap.size W5 W6 := by rw [hW6]; exact kp1 _ _
        have hz6 : W6.heap.size = w4.heap.size + 2 := by rw [hW6]; simp; omega
        have hf6 : W6.heap[w4.heap.size + 1]? = some (.cells #[.string ⟨tn.toArray⟩, .slice bb bl capb, .int .i64 (fl : Int)] 65 (0, 0)) := by rw [hW6, ← hz5]; exact World.alloc_heap_new W5 _
        have hu6 := (k56.block w4.heap.size (by omega) (by simp)).trans HU5.out
        have B6 := Lib.hid (B5.out.next k56)
        rw [← hW6]
        clear hW6 k56 e0 d0 d1 d2
        obtain ⟨u0, u1, u2, u3, u4⟩ := boxT hu6
        obtain ⟨f0, f1, f2⟩ := boxF hf6
        have HF6 := Lib.hid hf6
        have hdel : (delBy F.name s d.files).length ≤ 8 := Nat.le_trans (List.length_filter_le _ _) hfew
        have hsz4 := B4.out.size
        clear hu6 hf6
        go_region_with (first
          | (go_at_call 70; refine (rwithoutO w _ _ d.files _ _ _ _ s (FilesO.kp (w := w) HFW.out (B6.out.kp.drew 1)) hfew).mono ?_; rintro e w7 ⟨fv7, rfl, hf7, k7⟩; have B7 := Lib.hid ((B6.out.next ((Kp.refl [] _ _).drew 1)).next k7); have hx7 := (k7.block (w4.heap.size + 1) (by show w4.heap.size + 1 < W6.heap.size; omega) (by simp)).trans HF6.out; obtain ⟨p0, p1, p2⟩ := boxF hx7; have HF7 := Lib.hid hf7; clear hf7 k7 hx7)
          | (go_at_call 75; refine (rputO w _ _ (delBy F.name s d.files) _ _ _ _ ⟨tn, d.files[j].b, fl⟩ _ (HF7.out.base (Nat.zero_le _)) hdel (by rw [HBL.out]; exact HVB.out)).mono ?_; rintro e w8 ⟨fv8, rfl, hf8, k8⟩; have B8 := Lib.hid (B7.out.next k8); obtain ⟨ao8, cap8, rfl, -, -⟩ := hf8.shape; have hr8 := B8.out.ans; obtain ⟨g0, g1, g2, g3, g4⟩ := boxT hr8; have q0 : w8.frozen? ⟨w.heap.size + 1, 0, none⟩ = false := Lib.frozen_of_heap hr8 0; have q1 : w8.frozen? ⟨w.heap.size + 1, 1, none⟩ = false := Lib.frozen_of_heap hr8 1; have q2 : w8.frozen? ⟨w.heap.size + 1, 2, none⟩ = false := Lib.frozen_of_heap hr8 2; have q3 : w8.frozen? ⟨w.heap.size + 1, 3, none⟩ = false := Lib.frozen_of_heap hr8 3; have q4 : w8.frozen? ⟨w.heap.size + 1, 4, none⟩ = false := Lib.frozen_of_heap hr8 4; have HF8 := Lib.hid hf8; clear hf8 k8 hr8))
        all_goals (
          go_wp2_with fail
          have hg := set5b B8.out.ans (.slice ao8 (putBy F.name ⟨tn, d.files[j].b, fl⟩ (delBy F.name s d.files)).length cap8) (.int .i64 (d4.room : Int)) (.bool d4.fuse.isSome) (.int .i64 left4) (.bool d4.dead)
          have KL := set5_kp w8 (w.heap.size + 1) (.slice ao8 (putBy F.name ⟨tn, d.files[j].b, fl⟩ (delBy F.name s d.files)).length cap8) (.int .i64 (d4.room : Int)) (.bool d4.fuse.isSome) (.int .i64 left4) (.bool d4.dead)
          have K9 := B8.out.kp.trans (KL.shed (B' := w.heap.size) (by simp) (by have := B8.out.size; omega))
          (try simp only [Exit.inBlock, Exit.then])
          refine bodyPost_ret (YtdabflkejhoghaaGreat.HW.results_ct rfl _ _ (w.heap.size + 1) 31 _ (0, 0) _ rfl hg Tryz.underlying31 rfl infoT) rfl ?_
          have e := HDR.out
          rw [hs2, if_pos rfl, ← HD4.out] at e
          rw [e]
          obtain ⟨fv9, left9, heq, _, hq1, hq2, hq3, hok9⟩ := HT4.out w HFW.out
          obtain ⟨rfl, rfl⟩ : Value.slice (some ⟨g, 0, none⟩) m cap = fv9 ∧ left4 = left9 := by simpa using heq
          have hlk4 : d4.look s = some d.files[j] := by rw [HD4.out, d.look_step]; exact HLK.out
          have hfn : d.files[j].name = s := HFN.out
          refine ⟨_, rfl, ⟨_, left4, rfl, ?_, hq1, hq2, hq3, hok9.moved hlk4 hnm⟩, K9⟩
          show FilesR _ 0 _ (putBy F.name ⟨tn, d.files[j].b, d.files[j].lasts⟩ (delBy F.name d.files[j].name d4.files))
          rw [hfs, hfn, ← HFL.out]
          exact (HF8.out.kpL KL (by have := B7.out.size; simp; omega)).ref K9)
end Go.Proofs.YtdabflkejhoghaaGreat.Hand
