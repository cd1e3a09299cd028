/- The reference's disk: Sync. -/
import Derived.Below
import Derived.Deep.Draws
import Derived.Deep.AppendLies
import Derived.Maps.AppendAt
import Derived.OwnWalk
import Derived.Laws.BytesArg
import Derived.Laws.MakeOwn
import Derived.Laws.OwnMore
import Derived.Deep.OwnRows
import Derived.Tactics
import Derived.Lib.ConvBytes
import Derived.Laws.Slices
import Derived.WalkKit
import Derived.KernelRfl
import Derived.RowKit3
import Derived.Deep.LoopGhost
import Derived.Deep.QuietTactic
import Derived.BigQuiet
import Derived.WideLaws
import Derived.Deep.DeepCutAuto
import Derived.Deep.CutBlock
import Derived.Deep.RegionHeld3
import Derived.Laws.Rows
import Derived.Lib.AppendStr
import Derived.ArgAppend
import Derived.Laws.IdiomCopy
import Derived.OrdersHeld
import Derived.Laws.BitsLemmas
import Derived.RowKit
import Derived.Outline
import Derived.Maps.Own
import Derived.Maps.OwnOps
import Derived.Maps.OwnSet
import Derived.Maps.Views
import Derived.Maps.RangeWalk
import Derived.Maps.Ext
import Derived.RangeFuncOwn
import Derived.OneCell
import Derived.Deep.DeepMust
import Derived.Lib.Hide
import Derived.StillTailTactics
import Derived.Laws.AppendOwnNone
import Derived.WalkMore
import Derived.Lib.SlBytesConst
import Derived.WalkLawsBesides
import Derived.Laws.BitsAllLaws
import Derived.Test.YtdabflkejhoghaaGreatHRs
namespace Go.Proofs.YtdabflkejhoghaaGreat.Hand
open Go Go.RowKit Go.Maps Go.WideMaps
set_option linter.unusedVariables false
set_option linter.unusedSimpArgs false
theorem sync_none {d : Dk} {s : List UInt8} (h : d.look s = none) : d.sync s = (d, false) := by unfold Dk.sync; rw [h]
theorem sync_some {d : Dk} {s : List UInt8} {f : F} (h : d.look s = some f) : d.sync s = if d.step.2 = true then (d.step.1.synced f, true) else (d.step.1, false) := by unfold Dk.sync; rw [h]
set_option maxHeartbeats 800000 in
set_option maxRecDepth 100000 in
theorem rSync (d : Dk) (v : Value) (s : List UInt8) (w : World) (h : IsT w v d) :
    Calls Tryz.prog 51 #[v, .string ⟨s.toArray⟩] w fun e w' => ∃ v', e = .returned (.tuple #[v', .bool (d.sync s).2]) ∧ IsT w' v' (d.sync s).1 ∧ Kp [] w.heap.size w w' := by
  have HH := Lib.hid h
  obtain ⟨fv, left, rfl, hf, hl1, hl2, hl3, hok⟩ := h
  obtain ⟨ao, cap, rfl, -, -⟩ := hf.shape
  obtain ⟨m, hm⟩ : ∃ m, m = d.files.length := ⟨_, rfl⟩
  have hm8 : m ≤ 8 := by rw [hm]; exact hok.few
  have HFW : Hid (FilesR w 0 (.slice ao m cap) d.files) := by rw [hm]; exact hf
  rw [← hm] at HH ⊢
  have HM := Lib.hid hm
  clear hf hl1 hok hm
  go_enter Tryz.func51, Tryz.ntmps51
  go_wp2_with fail
  obtain ⟨W2, hW2⟩ : ∃ W2, W2 = (w.alloc (.cells #[.slice ao m cap, .int .i64 (d.room : Int), .bool d.fuse.isSome, .int .i64 left, .bool d.dead] 31)).alloc (.cells #[.slice none 0 0, .int .i64 0, .bool false, .int .i64 0, .bool false] 31) := ⟨_, rfl⟩
  rw [← hW2]
  have hz2 : W2.heap.size = w.heap.size + 2 := by rw [hW2]; simp
  have hb2 : W2.heap[w.heap.size]? = some (.cells #[.slice ao m cap, .int .i64 (d.room : Int), .bool d.fuse.isSome, .int .i64 left, .bool d.dead] 31) := by
    rw [hW2]; exact (Below.heap_alloc _ _ _ (by simp)).trans (World.alloc_heap_new w _)
  have hr2 : W2.heap[w.heap.size + 1]? = some (.cells #[.slice none 0 0, .int .i64 0, .bool false, .int .i64 0, .bool false] 31) := by
    rw [hW2]; exact new_at _ _ _ (by simp)
  have HK2 : Hid (Kp [] w.heap.size w W2) := by rw [hW2]; exact kp2 _ _ _
  have HH2 := Lib.hid (HH.out.kp HK2.out)
  clear hW2
  refine (rfind d _ s W2 HH2.out).mono ?_
  rintro e w3 ⟨rfl, k3⟩
  have hz3 := k3.size
  have hb3 := (k3.block w.heap.size (by omega) (by simp)).trans hb2
  have hr3 := (k3.block (w.heap.size + 1) (by omega) (by simp)).trans hr2
  have HH3 := Lib.hid (HH2.out.kp k3)
  have HK3 : Hid (Kp [] w.heap.size w w3) := HK2.out.trans (k3.mono (by simp) (by omega))
  have HR3 := Lib.hid hr3
  have HB3 := Lib.hid hb3
  have e0 : w3.cell? ⟨w.heap.size, 0, none⟩ = some (.slice ao m cap) := by rw [Lib.cell_of_heap hb3]; rfl
  have e1 : w3.cell? ⟨w.heap.size, 1, none⟩ = some (.int .i64 (d.room : Int)) := by rw [Lib.cell_of_heap hb3]; rfl
  have e2 : w3.cell? ⟨w.heap.size, 2, none⟩ = some (.bool d.fuse.isSome) := by rw [Lib.cell_of_heap hb3]; rfl
  have e3 : w3.cell? ⟨w.heap.size, 3, none⟩ = some (.int .i64 left) := by rw [Lib.cell_of_heap hb3]; rfl
  have e4 : w3.cell? ⟨w.heap.size, 4, none⟩ = some (.bool d.dead) := by rw [Lib.cell_of_heap hb3]; rfl
  have hsz3 : w.heap.size + 2 ≤ w3.heap.size := by omega
  clear hb2 hr2 hb3 k3
  rcases findI_look (d := d) (s := s) with ⟨hlk, hfi⟩ | ⟨j, hj, hfi, hlk⟩
  · rw [hfi]
    have HDR := Lib.hid (sync_none hlk)
    clear hlk
    have g0 : w3.cell? ⟨w.heap.size + 1, 0, none⟩ = some (.slice none 0 0) := by rw [Lib.cell_of_heap hr3]; rfl
    have g1 : w3.cell? ⟨w.heap.size + 1, 1, none⟩ = some (.int .i64 0) := by rw [Lib.cell_of_heap hr3]; rfl
    have g2 : w3.cell? ⟨w.heap.size + 1, 2, none⟩ = some (.bool false) := by rw [Lib.cell_of_heap hr3]; rfl
    have g3 : w3.cell? ⟨w.heap.size + 1, 3, none⟩ = some (.int .i64 0) := by rw [Lib.cell_of_heap hr3]; rfl
    have g4 : w3.cell? ⟨w.heap.size + 1, 4, none⟩ = some (.bool false) := by rw [Lib.cell_of_heap hr3]; rfl
    have k0 : w3.frozen? ⟨w.heap.size + 1, 0, none⟩ = false := Lib.frozen_of_heap hr3 0
    have k1 : w3.frozen? ⟨w.heap.size + 1, 1, none⟩ = false := Lib.frozen_of_heap hr3 1
    have k2 : w3.frozen? ⟨w.heap.size + 1, 2, none⟩ = false := Lib.frozen_of_heap hr3 2
    have k3 : w3.frozen? ⟨w.heap.size + 1, 3, none⟩ = false := Lib.frozen_of_heap hr3 3
    have k4 : w3.frozen? ⟨w.heap.size + 1, 4, none⟩ = false := Lib.frozen_of_heap hr3 4
    clear hr3 hfi
    go_wp2_with fail
    have hg := set5b HR3.out (.slice ao m cap) (.int .i64 (d.room : Int)) (.bool d.fuse.isSome) (.int .i64 left) (.bool d.dead)
    have KL := (((((Kp.refl [w.heap.size + 1] w3.heap.size w3).setCell (b := w.heap.size + 1) (.inr (by simp)) 0 none (.slice ao m cap)).setCell (b := w.heap.size + 1) (.inr (by simp)) 1 none (.int .i64 (d.room : Int))).setCell (b := w.heap.size + 1) (.inr (by simp)) 2 none (.bool d.fuse.isSome)).setCell (b := w.heap.size + 1) (.inr (by simp)) 3 none (.int .i64 left)).setCell (b := w.heap.size + 1) (.inr (by simp)) 4 none (.bool d.dead)
    have K6 := HK3.out.trans (KL.shed (B' := w.heap.size) (by simp) (by omega))
    (try simp only [Exit.inBlock, Exit.then])
    refine bodyPost_ret (YtdabflkejhoghaaGreat.HW.results_ct rfl _ _ (w.heap.size + 1) 31 _ (0, 0) _ rfl hg Tryz.underlying31 rfl infoT) rfl ?_
    rw [HDR.out]
    exact ⟨_, rfl, HH.out.kp K6, K6⟩
  · rw [hfi]
    have HDR := Lib.hid (sync_some hlk)
    have HLK := Lib.hid hlk
    have HFN := Lib.hid (Dk.look_mem hlk).2
    have hj0 : decide ((j : Int) < 0) = false := decide_eq_false (by omega)
    clear hlk hr3 hfi
    go_wp2_with fail
    refine (rstepO d _ left w3 HH3.out).mono ?_
    rintro e w4 ⟨left4, rfl, hT4, k4⟩
    have HT4 := Lib.hid hT4
    obtain ⟨d4, hd4⟩ : ∃ d4, d4 = d.step.1 := ⟨_, rfl⟩
    rw [← hd4] at HT4 ⊢
    have hz4 := k4.size
    have hr4 := (k4.block (w.heap.size + 1) (by omega) (by simp)).trans HR3.out
    have HR4 := Lib.hid hr4
    have HB4 := Lib.hid ((k4.block w.heap.size (by omega) (by simp)).trans HB3.out)
    have HK4 : Hid (Kp [] w.heap.size w w4) := HK3.out.trans (k4.mono (by simp) (by omega))
    have g0 : w4.cell? ⟨w.heap.size + 1, 0, none⟩ = some (.slice none 0 0) := by rw [Lib.cell_of_heap hr4]; rfl
    have g1 : w4.cell? ⟨w.heap.size + 1, 1, none⟩ = some (.int .i64 0) := by rw [Lib.cell_of_heap hr4]; rfl
    have g2 : w4.cell? ⟨w.heap.size + 1, 2, none⟩ = some (.bool false) := by rw [Lib.cell_of_heap hr4]; rfl
    have g3 : w4.cell? ⟨w.heap.size + 1, 3, none⟩ = some (.int .i64 0) := by rw [Lib.cell_of_heap hr4]; rfl
    have g4 : w4.cell? ⟨w.heap.size + 1, 4, none⟩ = some (.bool false) := by rw [Lib.cell_of_heap hr4]; rfl
    have k0 : w4.frozen? ⟨w.heap.size + 1, 0, none⟩ = false := Lib.frozen_of_heap hr4 0
    have k1 : w4.frozen? ⟨w.heap.size + 1, 1, none⟩ = false := Lib.frozen_of_heap hr4 1
    have k2 : w4.frozen? ⟨w.heap.size + 1, 2, none⟩ = false := Lib.frozen_of_heap hr4 2
    have k3 : w4.frozen? ⟨w.heap.size + 1, 3, none⟩ = false := Lib.frozen_of_heap hr4 3
    have k5 : w4.frozen? ⟨w.heap.size + 1, 4, none⟩ = false := Lib.frozen_of_heap hr4 4
    have hlt4 : w.heap.size + 1 < w4.heap.size := by omega
    have HD4 := Lib.hid hd4
    clear hr4 k4 hd4 e0 e1 e2 e3 e4 hT4
    cases hs2 : d.step.2 with
    | false =>
      go_wp2_with fail
      have hg := set5b HR4.out (.slice ao m cap) (.int .i64 (d4.room : Int)) (.bool d4.fuse.isSome) (.int .i64 left4) (.bool d4.dead)
      have KL := (((((Kp.refl [w.heap.size + 1] w4.heap.size w4).setCell (b := w.heap.size + 1) (.inr (by simp)) 0 none (.slice ao m cap)).setCell (b := w.heap.size + 1) (.inr (by simp)) 1 none (.int .i64 (d4.room : Int))).setCell (b := w.heap.size + 1) (.inr (by simp)) 2 none (.bool d4.fuse.isSome)).setCell (b := w.heap.size + 1) (.inr (by simp)) 3 none (.int .i64 left4)).setCell (b := w.heap.size + 1) (.inr (by simp)) 4 none (.bool d4.dead)
      have hg2 : ∀ o : Obj, ((((((w4.setCell ⟨w.heap.size + 1, 0, none⟩ (.slice ao m cap)).setCell ⟨w.heap.size + 1, 1, none⟩ (.int .i64 (d4.room : Int))).setCell ⟨w.heap.size + 1, 2, none⟩ (.bool d4.fuse.isSome)).setCell ⟨w.heap.size + 1, 3, none⟩ (.int .i64 left4)).setCell ⟨w.heap.size + 1, 4, none⟩ (.bool d4.dead)).alloc o).heap[w.heap.size + 1]? = _ := fun o => (Below.heap_alloc _ o _ (by have := KL.size; omega)).trans hg
      have K6 := fun o => (HK4.out.trans (KL.shed (B' := w.heap.size) (by simp) (by omega))).alloc (by have := KL.size; omega) o
      go_wp2_with fail
      (try simp only [Exit.inBlock, Exit.then])
      refine bodyPost_ret (YtdabflkejhoghaaGreat.HW.results_ct rfl _ _ (w.heap.size + 1) 31 _ (0, 0) _ rfl (hg2 _) Tryz.underlying31 rfl infoT) rfl ?_
      have e := HDR.out
      rw [hs2, if_neg (by simp)] at e
      rw [e, ← HD4.out]
      exact ⟨_, rfl, HT4.out _ (HFW.out.kp (K6 _)), K6 _⟩
    | true =>
      have hfs : d4.files = d.files := by rw [HD4.out]; exact d.step_files
      have HFX : Hid (FilesO w (w4.alloc (.cells #[.slice ao m cap, .int .i64 (d4.room : Int), .bool d4.fuse.isSome, .int .i64 left4, .bool d4.dead] 31)) 0 (.slice ao m cap) d.files) := FilesO.kp (w := w) HFW.out (HK4.out.alloc (by omega) _)
      have hfew : d.files.length ≤ 8 := by have := HM.out; omega
      go_upto_region 7 with fail
      obtain ⟨W5, hW5⟩ : ∃ W5, W5 = (w4.alloc (.cells #[.slice ao m cap, .int .i64 (d4.room : Int), .bool d4.fuse.isSome, .int .i64 left4, .bool d4.dead] 31)).drew := ⟨_, rfl⟩
      have hz5 : W5.heap.size = w4.heap.size + 1 := by rw [hW5]; simp [World.drew]
      have hu5 : W5.heap[w4.heap.size]? = some (.cells #[.slice ao m cap, .int .i64 (d4.room : Int), .bool d4.fuse.isSome, .int .i64 left4, .bool d4.dead] 31) := by rw [hW5]; exact World.alloc_heap_new w4 _
      have K45 : Kp [] w4.heap.size w4 W5 := by rw [hW5]; exact (kp1 _ _).drew 1
      have HW5 := Lib.hid hW5
      have hb5 := (K45.block w.heap.size (by omega) (by simp)).trans HB4.out
      have hr5 := (K45.block (w.heap.size + 1) (by omega) (by simp)).trans HR4.out
      have KW5 := HK4.out.trans (K45.mono (by simp) (by omega))
      obtain ⟨g, vb, hg0, -, hg, -, c1, -, hvb⟩ := HFW.out.at j hj
      obtain ⟨bb, capb, rfl, -, -, -⟩ := id hvb
      subst hg0
      have d1 := (KW5.cell (p := ⟨g, j * 3 + 1, none⟩) hg (by simp)).trans c1
      have HVB := Lib.hid hvb
      have HK5 := Lib.hid KW5
      have HR5 := Lib.hid hr5
      have HU5 := Lib.hid hu5
      have e0 : W5.cell? ⟨w.heap.size, 0, none⟩ = some (.slice (some ⟨g, 0, none⟩) m cap) := by rw [Lib.cell_of_heap hb5]; rfl
      have u0 : W5.cell? ⟨w4.heap.size, 0, none⟩ = some (.slice (some ⟨g, 0, none⟩) m cap) := by rw [Lib.cell_of_heap hu5]; rfl
      have u1 : W5.cell? ⟨w4.heap.size, 1, none⟩ = some (.int .i64 (d4.room : Int)) := by rw [Lib.cell_of_heap hu5]; rfl
      have u2 : W5.cell? ⟨w4.heap.size, 2, none⟩ = some (.bool d4.fuse.isSome) := by rw [Lib.cell_of_heap hu5]; rfl
      have u3 : W5.cell? ⟨w4.heap.size, 3, none⟩ = some (.int .i64 left4) := by rw [Lib.cell_of_heap hu5]; rfl
      have u4 : W5.cell? ⟨w4.heap.size, 4, none⟩ = some (.bool d4.dead) := by rw [Lib.cell_of_heap hu5]; rfl
      have hjm : (j : Int) < (m : Int) := by have := HM.out; omega
      have hj2 : 0 ≤ (j : Int) := by omega
      clear g0 g1 g2 g3 g4 k0 k1 k2 k3 k5 c1 hvb KW5 hr5 hb5 hu5 K45
      refine wp_region_still_tail 16 (by kernel_rfl) (by kernel_rfl) ?_
      simp only [List.take_succ_cons, List.take_zero, List.drop_succ_cons, List.drop_zero]
      change wpStill _ _ (World.drew _) (fun a' => wpList _ _ _ _ a' (World.drew _)) _ _
      rw [← hW5]
      clear hW5
      repeat still_step
      refine wpStill_nil ?_
      have HFX5 : Hid (FilesO w W5 0 (.slice (some ⟨g, 0, none⟩) m cap) d.files) := FilesO.kp (w := w) HFW.out HK5.out
      obtain ⟨bl, hbl⟩ : ∃ bl, bl = d.files[j].b.length := ⟨_, rfl⟩
      have HBL := Lib.hid hbl
      have hz5' : w.heap.size + 1 < W5.heap.size := by omega
      go_wp2_with fail
      refine (rputO w _ _ d.files _ _ _ _ ⟨s, d.files[j].b, d.files[j].b.length⟩ _ HFX5.out hfew HVB.out).mono ?_
      rintro e w6 ⟨fv6, rfl, hf6, k6⟩
      obtain ⟨ao6, cap6, rfl, -, -⟩ := hf6.shape
      obtain ⟨m6, hm6⟩ : ∃ m6, m6 = (putBy F.name ⟨s, d.files[j].b, d.files[j].b.length⟩ d.files).length := ⟨_, rfl⟩
      rw [← hm6] at hf6 ⊢
      have hr6 := (k6.block (w.heap.size + 1) (by omega) (by simp)).trans HR5.out
      have HR6 := Lib.hid hr6
      have HF6 := Lib.hid hf6
      have HK6 : Hid (Kp [] w.heap.size w w6) := HK5.out.trans (k6.mono (by simp) (by omega))
      have hz6 : w.heap.size + 1 < w6.heap.size := Nat.lt_of_lt_of_le hz5' k6.size
      clear k6 hf6 hm6 e0 u0 u1 u2 u3 u4 d1 hr6
      go_wp2_with (refine wpList_stT rfl _ _ rfl _ _ _ _ _ _ _ rfl rfl HR6.out rfl ⟨rfl, rfl, rfl, rfl, rfl⟩ ?_; intro w7 hg7 k7 z7)
      have K7 := HK6.out.trans (k7.shed (B' := w.heap.size) (by simp) (by omega))
      (try simp only [Exit.inBlock, Exit.then])
      refine bodyPost_ret (YtdabflkejhoghaaGreat.HW.results_ct rfl _ _ (w.heap.size + 1) 31 _ (0, 0) _ rfl hg7 Tryz.underlying31 rfl infoT) rfl ?_
      have e := HDR.out
      rw [hs2, if_pos rfl, ← HD4.out] at e
      rw [e]
      obtain ⟨fv8, left8, heq, _, hq1, hq2, hq3, hok8⟩ := HT4.out w HFW.out
      obtain ⟨rfl, rfl⟩ : Value.slice (some ⟨g, 0, none⟩) m cap = fv8 ∧ left4 = left8 := by simpa using heq
      have hfn : d.files[j].name = s := HFN.out
      have hlk4 : d4.look s = some d.files[j] := by rw [HD4.out, d.look_step]; exact HLK.out
      refine ⟨_, rfl, ⟨_, left4, rfl, ?_, hq1, hq2, hq3, hok8.synced hlk4⟩, K7⟩
      show FilesR _ 0 _ (putBy F.name ⟨d.files[j].name, d.files[j].b, d.files[j].b.length⟩ d4.files)
      rw [hfs, hfn]
      exact (HF6.out.kpL k7 (by simp; omega)).ref K7
end Go.Proofs.YtdabflkejhoghaaGreat.Hand
