/- The reference's disk: Drop. -/
import Derived.Below
import Derived.Deep.Draws
import Derived.Deep.AppendLies
import Derived.Maps.AppendAt
import Derived.OwnWalk
import Derived.Laws.BytesArg
import Derived.Laws.MakeOwn
import Derived.Laws.OwnMore
import Derived.Deep.OwnRows
import Derived.Tactics
import Derived.Lib.ConvBytes
import Derived.Laws.Slices
import Derived.WalkKit
import Derived.KernelRfl
import Derived.RowKit3
import Derived.Deep.LoopGhost
import Derived.Deep.QuietTactic
import Derived.BigQuiet
import Derived.WideLaws
import Derived.Deep.DeepCutAuto
import Derived.Deep.CutBlock
import Derived.Deep.RegionHeld3
import Derived.Laws.Rows
import Derived.Lib.AppendStr
import Derived.ArgAppend
import Derived.Laws.IdiomCopy
import Derived.OrdersHeld
import Derived.Laws.BitsLemmas
import Derived.RowKit
import Derived.Outline
import Derived.Maps.Own
import Derived.Maps.OwnOps
import Derived.Maps.OwnSet
import Derived.Maps.Views
import Derived.Maps.RangeWalk
import Derived.Maps.Ext
import Derived.RangeFuncOwn
import Derived.OneCell
import Derived.Deep.DeepMust
import Derived.Lib.Hide
import Derived.StillTailTactics
import Derived.Laws.AppendOwnNone
import Derived.WalkMore
import Derived.Lib.SlBytesConst
import Derived.WalkLawsBesides
import Derived.Laws.BitsAllLaws
import Derived.Test.YtdabflkejhoghaaGreatHRx
namespace Go.Proofs.YtdabflkejhoghaaGreat.Hand
open Go Go.RowKit Go.Maps Go.WideMaps
set_option linter.unusedVariables false
set_option linter.unusedSimpArgs false
theorem findI_look {d : Dk} {s : List UInt8} : (d.look s = none ∧ findI d.files s = -1) ∨ ∃ j, ∃ hj : j < d.files.length, findI d.files s = (j : Int) ∧ d.look s = some d.files[j] := by
  cases h : d.files.findIdx? (fun f => f.name == s) with
  | none =>
    left
    constructor
    · unfold Dk.look
      rw [lookBy_none]
      rw [List.findIdx?_eq_none_iff] at h
      intro y hy; simpa using h y hy
    · unfold findI; rw [h]
  | some j =>
    right
    rw [List.findIdx?_eq_some_iff_getElem] at h
    obtain ⟨hj, h1, h2⟩ := h
    refine ⟨j, hj, findI_at hj (by simpa using h1) (fun k hk hlt => by simpa using h2 k hlt), ?_⟩
    unfold Dk.look lookBy
    rw [List.find?_eq_some_iff_getElem]
    exact ⟨by simpa using h1, j, hj, rfl, fun k hk => by simpa using h2 k hk⟩
theorem drop_none {d : Dk} {s : List UInt8} (h : d.look s = none) : d.drop s = (d, false) := by unfold Dk.drop; rw [h]
theorem drop_some {d : Dk} {s : List UInt8} {f : F} (h : d.look s = some f) : d.drop s = if d.step.2 = true then (d.step.1.dropped s, true) else (d.step.1, false) := by unfold Dk.drop; rw [h]
set_option maxHeartbeats 800000 in
set_option maxRecDepth 100000 in
theorem rDrop (d : Dk) (v : Value) (s : List UInt8) (w : World) (h : IsT w v d) :
    Calls Tryz.prog 48 #[v, .string ⟨s.toArray⟩] w fun e w' => ∃ v', e = .returned (.tuple #[v', .bool (d.drop s).2]) ∧ IsT w' v' (d.drop s).1 ∧ Kp [] w.heap.size w w' := by
  have HH := Lib.hid h
  obtain ⟨fv, left, rfl, hf, hl1, hl2, hl3, hok⟩ := h
  obtain ⟨ao, cap, rfl, -, -⟩ := hf.shape
  obtain ⟨m, hm⟩ : ∃ m, m = d.files.length := ⟨_, rfl⟩
  have hm8 : m ≤ 8 := by rw [hm]; exact hok.few
  have HFW : Hid (FilesR w 0 (.slice ao m cap) d.files) := by rw [hm]; exact hf
  rw [← hm] at HH ⊢
  have HM := Lib.hid hm
  clear hf hl1 hok hm
  go_enter Tryz.func48, Tryz.ntmps48
  go_wp2_with fail
  obtain ⟨W2, hW2⟩ : ∃ W2, W2 = (w.alloc (.cells #[.slice ao m cap, .int .i64 (d.room : Int), .bool d.fuse.isSome, .int .i64 left, .bool d.dead] 31)).alloc (.cells #[.slice none 0 0, .int .i64 0, .bool false, .int .i64 0, .bool false] 31) := ⟨_, rfl⟩
  rw [← hW2]
  have hz2 : W2.heap.size = w.heap.size + 2 := by rw [hW2]; simp
  have hb2 : W2.heap[w.heap.size]? = some (.cells #[.slice ao m cap, .int .i64 (d.room : Int), .bool d.fuse.isSome, .int .i64 left, .bool d.dead] 31) := by
    rw [hW2]; exact (Below.heap_alloc _ _ _ (by simp)).trans (World.alloc_heap_new w _)
  have hr2 : W2.heap[w.heap.size + 1]? = some (.cells #[.slice none 0 0, .int .i64 0, .bool false, .int .i64 0, .bool false] 31) := by
    rw [hW2]; exact new_at _ _ _ (by simp)
  have HK2 : Hid (Kp [] w.heap.size w W2) := by rw [hW2]; exact kp2 _ _ _
  have HH2 := Lib.hid (HH.out.kp HK2.out)
  clear hW2
  refine (rfind d _ s W2 HH2.out).mono ?_
  rintro e w3 ⟨rfl, k3⟩
  have hz3 := k3.size
  have hb3 := (k3.block w.heap.size (by omega) (by simp)).trans hb2
  have hr3 := (k3.block (w.heap.size + 1) (by omega) (by simp)).trans hr2
  have HH3 := Lib.hid (HH2.out.kp k3)
  have HK3 : Hid (Kp [] w.heap.size w w3) := HK2.out.trans (k3.mono (by simp) (by omega))
  have HR3 := Lib.hid hr3
  have e0 : w3.cell? ⟨w.heap.size, 0, none⟩ = some (.slice ao m cap) := by rw [Lib.cell_of_heap hb3]; rfl
  have e1 : w3.cell? ⟨w.heap.size, 1, none⟩ = some (.int .i64 (d.room : Int)) := by rw [Lib.cell_of_heap hb3]; rfl
  have e2 : w3.cell? ⟨w.heap.size, 2, none⟩ = some (.bool d.fuse.isSome) := by rw [Lib.cell_of_heap hb3]; rfl
  have e3 : w3.cell? ⟨w.heap.size, 3, none⟩ = some (.int .i64 left) := by rw [Lib.cell_of_heap hb3]; rfl
  have e4 : w3.cell? ⟨w.heap.size, 4, none⟩ = some (.bool d.dead) := by rw [Lib.cell_of_heap hb3]; rfl
  have hsz3 : w.heap.size + 2 ≤ w3.heap.size := by omega
  clear hb2 hr2 hb3 k3
  rcases findI_look (d := d) (s := s) with ⟨hlk, hfi⟩ | ⟨j, hj, hfi, hlk⟩
  · rw [hfi]
    have HDR := Lib.hid (drop_none hlk)
    clear hlk
    have g0 : w3.cell? ⟨w.heap.size + 1, 0, none⟩ = some (.slice none 0 0) := by rw [Lib.cell_of_heap hr3]; rfl
    have g1 : w3.cell? ⟨w.heap.size + 1, 1, none⟩ = some (.int .i64 0) := by rw [Lib.cell_of_heap hr3]; rfl
    have g2 : w3.cell? ⟨w.heap.size + 1, 2, none⟩ = some (.bool false) := by rw [Lib.cell_of_heap hr3]; rfl
    have g3 : w3.cell? ⟨w.heap.size + 1, 3, none⟩ = some (.int .i64 0) := by rw [Lib.cell_of_heap hr3]; rfl
    have g4 : w3.cell? ⟨w.heap.size + 1, 4, none⟩ = some (.bool false) := by rw [Lib.cell_of_heap hr3]; rfl
    have k0 : w3.frozen? ⟨w.heap.size + 1, 0, none⟩ = false := Lib.frozen_of_heap hr3 0
    have k1 : w3.frozen? ⟨w.heap.size + 1, 1, none⟩ = false := Lib.frozen_of_heap hr3 1
    have k2 : w3.frozen? ⟨w.heap.size + 1, 2, none⟩ = false := Lib.frozen_of_heap hr3 2
    have k3 : w3.frozen? ⟨w.heap.size + 1, 3, none⟩ = false := Lib.frozen_of_heap hr3 3
    have k4 : w3.frozen? ⟨w.heap.size + 1, 4, none⟩ = false := Lib.frozen_of_heap hr3 4
    clear hr3 hfi
    go_wp2_with fail
    have hg := set5b HR3.out (.slice ao m cap) (.int .i64 (d.room : Int)) (.bool d.fuse.isSome) (.int .i64 left) (.bool d.dead)
    have KL := (((((Kp.refl [w.heap.size + 1] w3.heap.size w3).setCell (b := w.heap.size + 1) (.inr (by simp)) 0 none (.slice ao m cap)).setCell (b := w.heap.size + 1) (.inr (by simp)) 1 none (.int .i64 (d.room : Int))).setCell (b := w.heap.size + 1) (.inr (by simp)) 2 none (.bool d.fuse.isSome)).setCell (b := w.heap.size + 1) (.inr (by simp)) 3 none (.int .i64 left)).setCell (b := w.heap.size + 1) (.inr (by simp)) 4 none (.bool d.dead)
    have K6 := HK3.out.trans (KL.shed (B' := w.heap.size) (by simp) (by omega))
    (try simp only [Exit.inBlock, Exit.then])
    refine bodyPost_ret (YtdabflkejhoghaaGreat.HW.results_ct rfl _ _ (w.heap.size + 1) 31 _ (0, 0) _ rfl hg Tryz.underlying31 rfl infoT) rfl ?_
    rw [HDR.out]
    exact ⟨_, rfl, HH.out.kp K6, K6⟩
  · rw [hfi]
    have HDR := Lib.hid (drop_some hlk)
    have hj0 : decide ((j : Int) < 0) = false := decide_eq_false (by omega)
    clear hlk hr3 hfi
    go_wp2_with fail
    refine (rstepO d _ left w3 HH3.out).mono ?_
    rintro e w4 ⟨left4, rfl, hT4, k4⟩
    have HT4 := Lib.hid hT4
    obtain ⟨d4, hd4⟩ : ∃ d4, d4 = d.step.1 := ⟨_, rfl⟩
    rw [← hd4] at HT4 ⊢
    have hz4 := k4.size
    have hr4 := (k4.block (w.heap.size + 1) (by omega) (by simp)).trans HR3.out
    have HR4 := Lib.hid hr4
    have HK4 : Hid (Kp [] w.heap.size w w4) := HK3.out.trans (k4.mono (by simp) (by omega))
    have g0 : w4.cell? ⟨w.heap.size + 1, 0, none⟩ = some (.slice none 0 0) := by rw [Lib.cell_of_heap hr4]; rfl
    have g1 : w4.cell? ⟨w.heap.size + 1, 1, none⟩ = some (.int .i64 0) := by rw [Lib.cell_of_heap hr4]; rfl
    have g2 : w4.cell? ⟨w.heap.size + 1, 2, none⟩ = some (.bool false) := by rw [Lib.cell_of_heap hr4]; rfl
    have g3 : w4.cell? ⟨w.heap.size + 1, 3, none⟩ = some (.int .i64 0) := by rw [Lib.cell_of_heap hr4]; rfl
    have g4 : w4.cell? ⟨w.heap.size + 1, 4, none⟩ = some (.bool false) := by rw [Lib.cell_of_heap hr4]; rfl
    have k0 : w4.frozen? ⟨w.heap.size + 1, 0, none⟩ = false := Lib.frozen_of_heap hr4 0
    have k1 : w4.frozen? ⟨w.heap.size + 1, 1, none⟩ = false := Lib.frozen_of_heap hr4 1
    have k2 : w4.frozen? ⟨w.heap.size + 1, 2, none⟩ = false := Lib.frozen_of_heap hr4 2
    have k3 : w4.frozen? ⟨w.heap.size + 1, 3, none⟩ = false := Lib.frozen_of_heap hr4 3
    have k5 : w4.frozen? ⟨w.heap.size + 1, 4, none⟩ = false := Lib.frozen_of_heap hr4 4
    have hlt4 : w.heap.size + 1 < w4.heap.size := by omega
    have HD4 := Lib.hid hd4
    clear hr4 k4 hd4 e0 e1 e2 e3 e4 hT4
    cases hs2 : d.step.2 with
    | false =>
      go_wp2_with fail
      have hg := set5b HR4.out (.slice ao m cap) (.int .i64 (d4.room : Int)) (.bool d4.fuse.isSome) (.int .i64 left4) (.bool d4.dead)
      have KL := (((((Kp.refl [w.heap.size + 1] w4.heap.size w4).setCell (b := w.heap.size + 1) (.inr (by simp)) 0 none (.slice ao m cap)).setCell (b := w.heap.size + 1) (.inr (by simp)) 1 none (.int .i64 (d4.room : Int))).setCell (b := w.heap.size + 1) (.inr (by simp)) 2 none (.bool d4.fuse.isSome)).setCell (b := w.heap.size + 1) (.inr (by simp)) 3 none (.int .i64 left4)).setCell (b := w.heap.size + 1) (.inr (by simp)) 4 none (.bool d4.dead)
      have hg2 : ∀ o : Obj, ((((((w4.setCell ⟨w.heap.size + 1, 0, none⟩ (.slice ao m cap)).setCell ⟨w.heap.size + 1, 1, none⟩ (.int .i64 (d4.room : Int))).setCell ⟨w.heap.size + 1, 2, none⟩ (.bool d4.fuse.isSome)).setCell ⟨w.heap.size + 1, 3, none⟩ (.int .i64 left4)).setCell ⟨w.heap.size + 1, 4, none⟩ (.bool d4.dead)).alloc o).heap[w.heap.size + 1]? = _ := fun o => (Below.heap_alloc _ o _ (by have := KL.size; omega)).trans hg
      have K6 := fun o => (HK4.out.trans (KL.shed (B' := w.heap.size) (by simp) (by omega))).alloc (by have := KL.size; omega) o
      go_wp2_with fail
      (try simp only [Exit.inBlock, Exit.then])
      refine bodyPost_ret (YtdabflkejhoghaaGreat.HW.results_ct rfl _ _ (w.heap.size + 1) 31 _ (0, 0) _ rfl (hg2 _) Tryz.underlying31 rfl infoT) rfl ?_
      have e := HDR.out
      rw [hs2, if_neg (by simp)] at e
      rw [e, ← HD4.out]
      exact ⟨_, rfl, HT4.out _ (HFW.out.kp (K6 _)), K6 _⟩
    | true =>
      have hfs : d4.files = d.files := by rw [HD4.out]; exact d.step_files
      have HFX : Hid (FilesO w (w4.alloc (.cells #[.slice ao m cap, .int .i64 (d4.room : Int), .bool d4.fuse.isSome, .int .i64 left4, .bool d4.dead] 31)) 0 (.slice ao m cap) d.files) := FilesO.kp (w := w) HFW.out (HK4.out.alloc (by omega) _)
      have hfew : d.files.length ≤ 8 := by have := HM.out; omega
      go_wp2_with fail
      refine (rwithoutO w _ _ d.files _ _ _ _ s HFX.out hfew).mono ?_
      rintro e w5 ⟨fv5, rfl, hf5, k5⟩
      obtain ⟨ao5, cap5, rfl, -, -⟩ := hf5.shape
      obtain ⟨m5, hm5⟩ : ∃ m5, m5 = (delBy F.name s d.files).length := ⟨_, rfl⟩
      rw [← hm5] at hf5 ⊢
      have hz5 := k5.size
      have hr5 := (k5.block (w.heap.size + 1) (by simp; omega) (by simp)).trans ((Below.heap_alloc _ _ _ (by omega)).trans HR4.out)
      have HR5 := Lib.hid hr5
      have HF5 := Lib.hid hf5
      have HK5 : Hid (Kp [] w.heap.size w w5) := (HK4.out.alloc (by omega) _).trans (k5.mono (by simp) (by simp; omega))
      have hz5' : w.heap.size + 1 < w5.heap.size := by simp at hz5; omega
      clear g0 g1 g2 g3 g4 k0 k1 k2 k3
      have g0 : w5.cell? ⟨w.heap.size + 1, 0, none⟩ = some (.slice none 0 0) := by rw [Lib.cell_of_heap hr5]; rfl
      have g1 : w5.cell? ⟨w.heap.size + 1, 1, none⟩ = some (.int .i64 0) := by rw [Lib.cell_of_heap hr5]; rfl
      have g2 : w5.cell? ⟨w.heap.size + 1, 2, none⟩ = some (.bool false) := by rw [Lib.cell_of_heap hr5]; rfl
      have g3 : w5.cell? ⟨w.heap.size + 1, 3, none⟩ = some (.int .i64 0) := by rw [Lib.cell_of_heap hr5]; rfl
      have g4 : w5.cell? ⟨w.heap.size + 1, 4, none⟩ = some (.bool false) := by rw [Lib.cell_of_heap hr5]; rfl
      have k0 : w5.frozen? ⟨w.heap.size + 1, 0, none⟩ = false := Lib.frozen_of_heap hr5 0
      have k1 : w5.frozen? ⟨w.heap.size + 1, 1, none⟩ = false := Lib.frozen_of_heap hr5 1
      have k2 : w5.frozen? ⟨w.heap.size + 1, 2, none⟩ = false := Lib.frozen_of_heap hr5 2
      have k3 : w5.frozen? ⟨w.heap.size + 1, 3, none⟩ = false := Lib.frozen_of_heap hr5 3
      have k6 : w5.frozen? ⟨w.heap.size + 1, 4, none⟩ = false := Lib.frozen_of_heap hr5 4
      clear hr5 k5 hf5 hm5
      go_wp2_with fail
      have hg := set5b HR5.out (.slice ao5 m5 cap5) (.int .i64 (d4.room : Int)) (.bool d4.fuse.isSome) (.int .i64 left4) (.bool d4.dead)
      have KL := (((((Kp.refl [w.heap.size + 1] w5.heap.size w5).setCell (b := w.heap.size + 1) (.inr (by simp)) 0 none (.slice ao5 m5 cap5)).setCell (b := w.heap.size + 1) (.inr (by simp)) 1 none (.int .i64 (d4.room : Int))).setCell (b := w.heap.size + 1) (.inr (by simp)) 2 none (.bool d4.fuse.isSome)).setCell (b := w.heap.size + 1) (.inr (by simp)) 3 none (.int .i64 left4)).setCell (b := w.heap.size + 1) (.inr (by simp)) 4 none (.bool d4.dead)
      have K6 := HK5.out.trans (KL.shed (B' := w.heap.size) (by simp) (by omega))
      (try simp only [Exit.inBlock, Exit.then])
      refine bodyPost_ret (YtdabflkejhoghaaGreat.HW.results_ct rfl _ _ (w.heap.size + 1) 31 _ (0, 0) _ rfl hg Tryz.underlying31 rfl infoT) rfl ?_
      have e := HDR.out
      rw [hs2, if_pos rfl, ← HD4.out] at e
      rw [e]
      obtain ⟨fv6, left6, heq, _, hq1, hq2, hq3, hok6⟩ := HT4.out w HFW.out
      obtain ⟨rfl, rfl⟩ : Value.slice ao m cap = fv6 ∧ left4 = left6 := by simpa using heq
      refine ⟨_, rfl, ⟨_, left4, rfl, ?_, hq1, hq2, hq3, hok6.dropped s⟩, K6⟩
      show FilesR _ 0 _ (delBy F.name s d4.files)
      rw [hfs]
      exact (HF5.out.kpL KL (by simp; omega)).ref K6
end Go.Proofs.YtdabflkejhoghaaGreat.Hand
