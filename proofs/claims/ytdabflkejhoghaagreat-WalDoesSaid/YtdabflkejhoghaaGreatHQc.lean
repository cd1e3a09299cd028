/- Crash; the chapter's example; the sum, numbers as bytes, Frame. -/
import Derived.Below
import Derived.Deep.Draws
import Derived.Deep.AppendLies
import Derived.Maps.AppendAt
import Derived.OwnWalk
import Derived.Laws.BytesArg
import Derived.Laws.MakeOwn
import Derived.Laws.OwnMore
import Derived.Deep.OwnRows
import Derived.Tactics
import Derived.Lib.ConvBytes
import Derived.Laws.Slices
import Derived.WalkKit
import Derived.KernelRfl
import Derived.RowKit3
import Derived.Deep.LoopGhost
import Derived.Deep.QuietTactic
import Derived.BigQuiet
import Derived.WideLaws
import Derived.Deep.DeepCutAuto
import Derived.Deep.CutBlock
import Derived.Deep.RegionHeld3
import Derived.Laws.Rows
import Derived.Lib.AppendStr
import Derived.ArgAppend
import Derived.Laws.IdiomCopy
import Derived.OrdersHeld
import Derived.Laws.BitsLemmas
import Derived.RowKit
import Derived.Outline
import Derived.Maps.Own
import Derived.Maps.OwnOps
import Derived.Maps.OwnSet
import Derived.Maps.Views
import Derived.Maps.RangeWalk
import Derived.Maps.Ext
import Derived.RangeFuncOwn
import Derived.OneCell
import Derived.Deep.DeepMust
import Derived.Lib.Hide
import Derived.StillTailTactics
import Derived.Laws.AppendOwnNone
import Derived.WalkMore
import Derived.Test.YtdabflkejhoghaaGreatHDl
import Derived.Test.YtdabflkejhoghaaGreatHQg
import Derived.Lib.SlBytesConst
import Derived.WalkLawsBesides
import Derived.Laws.BitsAllLaws
import Derived.Test.YtdabflkejhoghaaGreatHQb
import Derived.Test.YtdabflkejhoghaaGreatHQa
import Derived.Test.YtdabflkejhoghaaGreatHWa
import Derived.Test.YtdabflkejhoghaaGreatWLast
namespace Go.Proofs.YtdabflkejhoghaaGreat.Hand
open Go Go.RowKit Go.Maps Go.WideMaps Go.Sort
set_option linter.unusedVariables false
/-- what is left to keep behind some files -/
def spend : Nat → List F → Nat
  | k, [] => k
  | k, f :: r => spend (k - min (f.b.length - f.lasts) k) r
def crash1 (k : Nat) (f : F) : F := ⟨f.name, f.b.take (f.lasts + min (f.b.length - f.lasts) k), f.lasts + min (f.b.length - f.lasts) k⟩
theorem crashL_cons (k : Nat) (f : F) (r : List F) : crashL k (f :: r) = crash1 k f :: crashL (k - min (f.b.length - f.lasts) k) r := rfl
theorem crashL_append : ∀ (k : Nat) (l r : List F), crashL k (l ++ r) = crashL k l ++ crashL (spend k l) r
  | _, [], _ => rfl
  | k, f :: l, r => by simp [crashL_cons, spend, crashL_append _ l r]
theorem spend_append : ∀ (k : Nat) (l r : List F), spend k (l ++ r) = spend (spend k l) r
  | _, [], _ => rfl
  | k, f :: l, r => by simp [spend, spend_append _ l r]
theorem spend_le : ∀ (k : Nat) (l : List F), spend k l ≤ k
  | _, [] => Nat.le_refl _
  | k, f :: l => by have := spend_le (k - min (f.b.length - f.lasts) k) l; simp only [spend]; omega
/-- a disk, its first k files cut -/
def Dk.part (d : Dk) (K k : Nat) : Dk := ⟨crashL K (d.files.take k) ++ d.files.drop k, d.room, d.fuse, d.dead⟩
theorem part_names (d : Dk) (K k : Nat) : (d.part K k).files.map F.name = d.files.map F.name := by
  show (crashL K (d.files.take k) ++ d.files.drop k).map F.name = _
  rw [List.map_append, crashL_names, ← List.map_append, List.take_append_drop]
theorem Dk.Ok.part {d : Dk} (h : d.Ok) (K k : Nat) : (d.part K k).Ok := by
  have hn := part_names d K k
  refine ⟨rising_names hn h.rising, ?_, ?_, ?_, h.room, ?_⟩
  · intro f hf
    have : f.name ∈ d.files.map F.name := by rw [← hn]; exact List.mem_map_of_mem hf
    obtain ⟨g, hg, e⟩ := List.mem_map.1 this
    rw [← e]; exact h.names g hg
  · intro f hf
    rcases List.mem_append.1 hf with hf | hf
    · exact Nat.le_of_eq (crashL_lasts _ _ (fun g hg => h.lasts g (List.mem_of_mem_take hg)) f hf)
    · exact h.lasts f (List.mem_of_mem_drop hf)
  · show Hand.used (crashL K (d.files.take k) ++ d.files.drop k) ≤ d.room
    have h1 := crashL_used K (d.files.take k)
    have h2 : Hand.used (d.files.take k) + Hand.used (d.files.drop k) = Hand.used d.files := by rw [← used_append, List.take_append_drop]
    have := h.used
    rw [used_append]; omega
  · have := congrArg List.length hn
    simp only [List.length_map] at this
    rw [this]; exact h.few
theorem part_zero (d : Dk) (K : Nat) : d.part K 0 = d := by simp [Dk.part, crashL]
theorem part_all (d : Dk) (K : Nat) : (d.part K d.files.length).files = crashL K d.files := by simp [Dk.part]
theorem part_step {d : Dk} (h : d.Ok) {K k : Nat} (hk : k < d.files.length) :
    (d.part K k).look d.files[k].name = some d.files[k] ∧ (d.part K (k + 1)).files = putBy F.name (crash1 (spend K (d.files.take k)) d.files[k]) (d.part K k).files ∧
      spend K (d.files.take (k + 1)) = spend K (d.files.take k) - min (d.files[k].b.length - d.files[k].lasts) (spend K (d.files.take k)) := by
  have e1 : d.files.drop k = d.files[k] :: d.files.drop (k + 1) := List.drop_eq_getElem_cons hk
  have e2 : d.files.take (k + 1) = d.files.take k ++ [d.files[k]] := List.take_succ_eq_append_getElem hk
  obtain ⟨f, hf⟩ : ∃ f, f = d.files[k] := ⟨_, rfl⟩
  rw [← hf] at e1 e2 ⊢
  have hr : Rising F.name (crashL K (d.files.take k) ++ f :: d.files.drop (k + 1)) := by
    have := (h.part K k).rising
    unfold Dk.part at this
    rwa [e1] at this
  refine ⟨?_, ?_, ?_⟩
  · show lookBy F.name f.name (crashL K (d.files.take k) ++ d.files.drop k) = _
    rw [e1]
    unfold lookBy
    rw [List.find?_append]
    have hn : (crashL K (d.files.take k)).find? (fun y => y.name == f.name) = none := by
      rw [List.find?_eq_none]
      intro y hy
      have := (List.pairwise_append.1 hr).2.2 y hy f (by simp)
      simpa using bb_ne this
    rw [hn]
    simp
  · show crashL K (d.files.take (k + 1)) ++ d.files.drop (k + 1) = putBy F.name _ (crashL K (d.files.take k) ++ d.files.drop k)
    rw [e1, putBy_split hr (x' := crash1 (spend K (d.files.take k)) f) rfl, e2, crashL_append]
    simp [crashL, crash1]
  · rw [e2, spend_append]; rfl
end Go.Proofs.YtdabflkejhoghaaGreat.Hand
namespace Go.Proofs.YtdabflkejhoghaaGreat.Hand
open Go Go.RowKit Go.Maps Go.WideMaps Go.Sort
set_option linter.unusedVariables false
theorem own_row {w : World} {B E n : Nat} {v : Value} {xs : List Value} (h : w.ownsRow B E 1 v n xs) : (v = .slice none 0 0 ∧ n = 0) ∨ ∃ g cap, v = .slice (some ⟨g, 0, none⟩) n cap ∧ B ≤ g ∧ g < w.heap.size ∧ ∀ j u, xs[j]? = some u → w.cell? ⟨g, j, none⟩ = some u := by
  obtain ⟨hl, h⟩ := h
  rcases h with h | ⟨g, cap, cur, rfl, hg, hb, h1, h2, h3, h4⟩
  · exact .inl h
  · refine .inr ⟨g, cap, rfl, hg, (Array.getElem?_eq_some_iff.1 hb).1, fun j u hu => ?_⟩
    rw [Lib.cell_of_heap hb, ← Array.getElem?_toList]
    rw [← h4] at hu
    have hj : j < n * 1 := by
      have := (List.getElem?_eq_some_iff.1 hu).1
      simp at this; omega
    rwa [List.getElem?_take_of_lt hj] at hu
theorem vint {k : IntKind} {a b : Int} (h : a = b) : Value.int k a = .int k b := by rw [h]
/-- the end of a crash -/
theorem crash_fin {A : Nat → Prop} {p mb : Nat} {d e : Dk} {keep : Int} {w w' : World} (h : IsDisk w A p mb e) (hf : e.files = (d.crash keep).files) (hr : e.room = d.room) (ho : (d.crash keep).Ok)
    (hw : w' = (w.setCell ⟨p, 2, none⟩ (.bool false)).setCell ⟨p, 4, none⟩ (.bool false)) : IsDisk w' A p mb (d.crash keep) ∧ Kp [p] w.heap.size w w' := by
  subst hw
  have hk : Kp [p] w.heap.size w ((w.setCell ⟨p, 2, none⟩ (.bool false)).setCell ⟨p, 4, none⟩ (.bool false)) := ((Kp.refl _ _ _).setCell (.inr (by simp)) _ _ _).setCell (.inr (by simp)) _ _ _
  obtain ⟨left, hp, hl1, hl2, _⟩ := h.heap
  refine ⟨h.block hk (left := left) ?_ ⟨hl1, hl2, fun k hk => by cases hk⟩ hf.symm ho, hk⟩
  simp [World.setCell, Array.getElem?_modify, hp, Dk.crash, hr]
set_option maxHeartbeats 4000000 in
set_option maxRecDepth 100000 in
theorem dCrash (A : Nat → Prop) (p mb : Nat) (d : Dk) (keep : Int) (w : World) (h : IsDisk w A p mb d) (hkr : -9223372036854775808 ≤ keep ∧ keep ≤ 9223372036854775807) :
    Calls Tryz.prog 19 #[.pointer (some ⟨p, 0, none⟩), .int .i64 keep] w fun e w' => e = .returned (.tuple #[]) ∧ IsDisk w' A p mb (d.crash keep) ∧ Kp [p, mb] w.heap.size w w' := by
  obtain ⟨K, hK⟩ : ∃ K, K = keep.toNat := ⟨_, rfl⟩
  have hKb : K ≤ 9223372036854775807 := by omega
  have HKK := Lib.hid hK
  have hok := h.ok.crash keep
  clear hK
  go_enter Tryz.func19, Tryz.ntmps19
  go_upto_region 1 with fail
  go_cut [4] (fun l wx => l = .int .i64 (K : Int) ∧ w = wx)
  case first =>
    have hK := HKK.out
    go_wp2
    all_goals (go_meet; exact ⟨vint (by omega), rfl⟩)
  case rest =>
    obtain ⟨rfl, rfl⟩ := hcut
    obtain ⟨nf, hnf⟩ : ∃ nf, nf = d.files.length := ⟨_, rfl⟩
    have hnf8 : nf ≤ 8 := by rw [hnf]; exact h.ok.few
    have hN := dNames A p mb d w h
    unfold NamesP at hN
    rw [← hnf] at hN
    have HNF := Lib.hid hnf
    clear hnf
    go_wp2_with (go_at_call 28; go_must ((with_reducible refine hN.mono ?_); rintro e w1 ⟨v, rfl, ho, hk1⟩; have HO := Lib.hid ho; have HK1 := Lib.hid hk1; clear ho hk1; rcases own_row HO.out with ⟨rfl, hn0⟩ | ⟨g, cap, rfl, hg, hg1, hcells⟩))
    · subst hn0
      have h1 := h.kp_ge HK1.out
      obtain ⟨left, hp, _⟩ := h1.heap
      have c2 : w1.cell? ⟨p, 2, none⟩ = some (.bool d.fuse.isSome) := by rw [Lib.cell_of_heap hp]; rfl
      have c4 : w1.cell? ⟨p, 4, none⟩ = some (.bool d.dead) := by rw [Lib.cell_of_heap hp]; rfl
      have f2 : w1.frozen? ⟨p, 2, none⟩ = false := Lib.frozen_of_heap hp 2
      have f4 : w1.frozen? ⟨p, 4, none⟩ = false := Lib.frozen_of_heap hp 4
      have HP := Lib.hid hp
      clear hp hN
      refine wp_loop_rounds 1 ?_
      rw [rounds_succ]
      go_wp2
      go_end0
      have hnil : d.files = [] := List.length_eq_zero_iff.1 HNF.out.symm
      obtain ⟨r1, r2⟩ := crash_fin (d := d) (keep := keep) h1 (by show d.files = crashL keep.toNat d.files; rw [hnil]; rfl) rfl hok rfl
      exact ⟨rfl, r1, (HK1.out.mono (by simp) (Nat.le_refl _)).trans (r2.mono (by simp) HK1.out.size)⟩
    · have hmb := h.lt.2
      have hA1 := h.apart
      have hI0 : IsDisk w1 A p mb (d.part K 0) ∧ Kp [mb] w1.heap.size w1 w1 := ⟨by rw [part_zero]; exact h.kp_ge HK1.out, Kp.refl _ _ _⟩
      have HI0 := Lib.hid hI0
      have HC := Lib.hid hcells
      clear hI0 hcells hN
      go_loopw [4, 16] (fun l i wr => ∃ k : Nat, k ≤ nf ∧ l = .int .i64 ((spend K (d.files.take k) : Nat) : Int) ∧ i = .int .i64 (k : Int) ∧ Hid (IsDisk wr A p mb (d.part K k) ∧ Kp [mb] w1.heap.size w1 wr)) (fun _ i _ => nf - (intOf i).toNat)
      case atStart => exact ⟨0, by omega, rfl, rfl, HI0⟩
      case round =>
        obtain ⟨k, hk, rfl, rfl, HI⟩ := hrel
        by_cases hlt : k < nf
        · have hlt2 : k < d.files.length := by rw [← HNF.out]; exact hlt
          obtain ⟨f, hf⟩ : ∃ f, f = d.files[k] := ⟨_, rfl⟩
          obtain ⟨hp1, hp2, hp3⟩ := part_step h.ok (K := K) hlt2
          rw [← hf] at hp1 hp2 hp3
          have hfm : f ∈ d.files := by rw [hf]; exact List.getElem_mem _
          have hfl := h.ok.lasts f hfm
          have hfu := used_mem hfm
          have hnl : f.name.length ≤ maxLen := by have := named_le (h.ok.names f hfm); unfold maxLen; omega
          have hflen : f.b.length ≤ 1048576 := by have := h.ok.used; have := h.ok.room; omega
          have hcell : wr.cell? ⟨g, k, none⟩ = some (.string ⟨f.name.toArray⟩) := by
            rw [HI.out.2.cell (p := ⟨g, k, none⟩) hg1 (by simp; omega)]
            refine HC.out k _ ?_
            show ((names d.files).map encStr)[k]? = _
            unfold names
            rw [List.getElem?_map, List.getElem?_map, List.getElem?_eq_getElem hlt2, ← hf]
            rfl
          have hok2 := h.ok.part K (k + 1)
          obtain ⟨L, hL⟩ : ∃ L, L = spend K (d.files.take k) := ⟨_, rfl⟩
          have hLK : L ≤ K := by rw [hL]; exact spend_le _ _
          obtain ⟨N, hN2⟩ : ∃ N, N = min (f.b.length - f.lasts) L := ⟨_, rfl⟩
          obtain ⟨gs, so, sc, c0, HGS, hown, hlo, hv⟩ := HI.out.1.ready f.name
          have hold : (d.part K k).old f.name = f := by unfold Dk.old; rw [hp1]; rfl
          rw [hold] at hlo hv
          have hpl := HI.out.1.lt.1
          have hsc := hv.cap.1
          rw [← hL] at hp2 hp3
          rw [← hL]
          have HF := Lib.hid hf; have HP2 := Lib.hid hp2; have HP3 := Lib.hid hp3; have HL := Lib.hid hL; have HN2 := Lib.hid hN2
          clear hf hp1 hp2 hp3 hL hN2 hold hfu
          go_upto_region 6 with (at_lookup; go_must (refine wpList_look rfl _ _ rfl mb _ gs rfl hown f.name rfl hnl _ _ hlo ?_))
          go_cut [8, 16] from 16 to 54 (fun n i wx => n = .int .i64 (N : Int) ∧ i = .int .i64 (k : Int) ∧ wx = wr.alloc (.cells #[.slice so f.b.length sc, .int .i64 (f.lasts : Int)] 93))
          case first =>
            have hNN := HN2.out
            go_wp2
            all_goals (go_meet; exact ⟨vint (by omega), rfl, rfl⟩)
          case rest =>
            obtain ⟨rfl, rfl, rfl⟩ := hcut
            have hNL : N ≤ L := by have := HN2.out; omega
            have hNf : f.lasts + N ≤ f.b.length := by have := HN2.out; omega
            go_wp2
            obtain ⟨w3, hw3⟩ : ∃ w3, w3 = (wr.alloc (.cells #[.slice so f.b.length sc, .int .i64 (f.lasts : Int)] 93)).drew := ⟨_, rfl⟩
            have d0 : w3.cell? ⟨p, 0, none⟩ = some (.map (some mb)) := by rw [hw3]; exact (World.cell?_alloc_past _ _ _ hpl).trans c0
            have k0 : w3.cell? ⟨wr.heap.size, 0, none⟩ = some (.slice so f.b.length sc) := by rw [hw3]; exact (Lib.cell_of_heap (World.alloc_heap_new wr _) 0).trans rfl
            have k1 : w3.cell? ⟨wr.heap.size, 1, none⟩ = some (.int .i64 (f.lasts : Int)) := by rw [hw3]; exact (Lib.cell_of_heap (World.alloc_heap_new wr _) 1).trans rfl
            have HW3 := Lib.hid hw3
            have hown3 : w3.ownsMap Tryz.prog 9 heldR mb gs.length (entsD gs) := by rw [hw3]; exact (hown.alloc _).drew
            have hn3 := few_g HGS.out (h.ok.part K k)
            have hcmp : ((f.lasts : Int) + (N : Int) ≤ (sc : Int)) := by omega
            have hcmp0 : (0 : Int) ≤ (f.lasts : Int) + (N : Int) := by omega
            have hwr : IntKind.i64.wrap ((f.lasts : Int) + (N : Int)) = (f.lasts : Int) + (N : Int) := IntWalk.i64_in _ ⟨by omega, by omega⟩
            have hto : ((f.lasts : Int) + (N : Int)).toNat = f.lasts + N := by omega
            refine wp_region_still_tail 17 (by kernel_rfl) (by kernel_rfl) ?_
            simp only [List.take_succ_cons, List.take_zero, List.drop_succ_cons, List.drop_zero]
            change wpStill _ _ (World.drew _) (fun a' => wpList _ _ _ _ a' (World.drew _)) _ _
            rw [← hw3]
            clear hw3
            repeat still_step
            refine wpStill_nil ?_
            clear hwr hto
            go_wp2_with (at_mapUpdate; go_must (refine wpList_put rfl _ _ _ rfl mb _ gs rfl hown3 hn3 f.name rfl hnl (.agg #[.slice so (f.lasts + N) sc, .int .i64 ((f.lasts : Int) + (N : Int))]) rfl ?_; intro w4 hown4 hk4; have HO4 := Lib.hid hown4; have HK4 := Lib.hid hk4; clear hown4 hk4))
            go_roundw
            case rel =>
              have hkr : Kp [] wr.heap.size wr w3 := by rw [HW3.out]; exact ((Kp.refl _ _ _).alloc (Nat.le_refl _) _).drew 1
              have h3 : IsDisk w3 A p mb (d.part K k) := HI.out.1.kp_ge hkr
              have hv4 : BytesV w4 A (.slice so (f.lasts + N) sc) (f.b.take (f.lasts + N)) := ((hv.kp hkr (by simp)).kp HK4.out (by simpa using hA1.2.2)).take (f.lasts + N) hNf
              have ec : crash1 L f = ⟨f.name, f.b.take (f.lasts + N), f.lasts + N⟩ := by unfold crash1; rw [← HN2.out]
              refine ⟨k + 1, by omega, ?_, by go_num, h3.putted HGS.out (h3.files HGS.out hown3) (crash1 L f, .agg #[.slice so (f.lasts + N) sc, .int .i64 ((f.lasts : Int) + (N : Int))]) rfl rfl HO4.out HK4.out ?_ ?_ hok2, ?_⟩
              · rw [HP3.out, ← HN2.out]; exact vint (by omega)
              · rw [ec]; exact ⟨_, rfl, hv4⟩
              · unfold Dk.part at HP2 ⊢; rw [← HP2.out]
              · exact (HI.out.2.trans (hkr.mono (by simp) HI.out.2.size)).trans (HK4.out.mono (by simp) (Nat.le_trans HI.out.2.size hkr.size))
            case measure => simp [intOf]; omega
        · have hkn : k = nf := by omega
          subst hkn
          obtain ⟨left, hp, _⟩ := HI.out.1.heap
          have c2 : wr.cell? ⟨p, 2, none⟩ = some (.bool (d.part K k).fuse.isSome) := by rw [Lib.cell_of_heap hp]; rfl
          have c4 : wr.cell? ⟨p, 4, none⟩ = some (.bool (d.part K k).dead) := by rw [Lib.cell_of_heap hp]; rfl
          have f2 : wr.frozen? ⟨p, 2, none⟩ = false := Lib.frozen_of_heap hp 2
          have f4 : wr.frozen? ⟨p, 4, none⟩ = false := Lib.frozen_of_heap hp 4
          have HP := Lib.hid hp
          clear hp
          go_wp2
          go_end0
          obtain ⟨r1, r2⟩ := crash_fin (d := d) (keep := keep) HI.out.1 (by rw [HNF.out, part_all, HKK.out]; rfl) rfl hok rfl
          exact ⟨rfl, r1, ((HK1.out.mono (by simp) (Nat.le_refl _)).trans (HI.out.2.mono (by simp) HK1.out.size)).trans (r2.mono (by simp) (Nat.le_trans HK1.out.size HI.out.2.size))⟩
set_option maxRecDepth 100000 in
theorem dCrash_nil (keep : Int) (w : World) : Calls Tryz.prog 19 #[.pointer none, .int .i64 keep] w fun e w' => e = .returned (.tuple #[]) ∧ w = w' := by
  go_enter Tryz.func19, Tryz.ntmps19
  go_wp2
  exact bodyPost_ret (results_none rfl _ _ _) rfl ⟨rfl, rfl⟩
theorem dSync_nil (nm : List UInt8) (w : World) : Calls Tryz.prog 41 #[.pointer none, .string ⟨nm.toArray⟩] w fun e w' => e = .returned (.bool false) ∧ w = w' := by
  go_enter Tryz.func41, Tryz.ntmps41
  go_wp2_with (go_at_call 52; (with_reducible refine (dthere_nil nm _).mono ?_); rintro e w1 ⟨rfl, rfl⟩)
  go_ret
  exact ⟨rfl, rfl⟩
theorem dDrop_nil (nm : List UInt8) (w : World) : Calls Tryz.prog 35 #[.pointer none, .string ⟨nm.toArray⟩] w fun e w' => e = .returned (.bool false) ∧ w = w' := by
  go_enter Tryz.func35, Tryz.ntmps35
  go_wp2_with (go_at_call 52; (with_reducible refine (dthere_nil nm _).mono ?_); rintro e w1 ⟨rfl, rfl⟩)
  go_ret
  exact ⟨rfl, rfl⟩
set_option maxRecDepth 100000 in
theorem dRename_nil (nm tn : List UInt8) (w : World) : Calls Tryz.prog 61 #[.pointer none, .string ⟨nm.toArray⟩, .string ⟨tn.toArray⟩] w fun e w' => e = .returned (.bool false) ∧ w = w' := by
  go_enter Tryz.func61, Tryz.ntmps61
  go_wp2_with (go_at_call 52; (with_reducible refine (dthere_nil nm _).mono ?_); rintro e w1 ⟨rfl, rfl⟩)
  go_ret
  exact ⟨rfl, rfl⟩
end Go.Proofs.YtdabflkejhoghaaGreat.Hand
namespace Go.Proofs.YtdabflkejhoghaaGreat.Hand
open Go Go.RowKit Go.Maps Go.WideMaps
set_option linter.unusedVariables false
theorem BytesV.cells {w : World} {A : Nat → Prop} {g cap : Nat} {cs : Array Value} {T : TypeId} {fr : Nat × Nat} {b : List UInt8} (hb : w.heap[g]? = some (.cells cs T fr)) (hA : A g) (hc : ∀ j (hj : j < b.length), cs[j]? = some (.int .u8 ((b[j]'hj).toNat : Int))) (h1 : b.length ≤ cap) (h2 : cap ≤ 9223372036854775807) :
    BytesV w A (.slice (some ⟨g, 0, none⟩) b.length cap) b := by
  refine ⟨_, cap, rfl, h1, h2, .inr ⟨_, rfl, fun _ => ⟨hA, (Array.getElem?_eq_some_iff.1 hb).1⟩, fun j hj => ?_⟩⟩
  have e : (⟨g, 0, none⟩ : Addr).add j = ⟨g, j, none⟩ := by unfold Addr.add; split <;> simp_all
  rw [e, Lib.cell_of_heap hb, hc j hj]
theorem BytesV.lit2 {w : World} {A : Nat → Prop} {x y : UInt8} {T : TypeId} {fr : Nat × Nat} (hA : A w.heap.size) : BytesV (w.alloc (.cells #[.int .u8 (x.toNat : Int), .int .u8 (y.toNat : Int)] T fr)) A (.slice (some ⟨w.heap.size, 0, none⟩) 2 2) [x, y] :=
  BytesV.cells (b := [x, y]) (World.alloc_heap_new w _) hA (fun j hj => by match j, hj with | 0, _ => rfl | 1, _ => rfl) (Nat.le_refl _) (by decide)
/-- bytes, as a text -/
theorem conv_bytes {w : World} {A : Nat → Prop} {v : Value} {b : List UInt8} (h : BytesV w A v b) : (convert 39 9 v).run Tryz.prog w = .ok (.string ⟨b.toArray⟩) w := by
  obtain ⟨ao, cap, rfl, h1, h2, h3⟩ := h
  rcases h3 with ⟨rfl, rfl, rfl⟩ | ⟨a, rfl, _, hc⟩
  · exact run_convert_bytes_nil w 39 5 Tryz.underlying39 Tryz.underlying5 0 0 9 Tryz.underlying9
  · exact run_convert_bytes_back w 39 9 5 a cap b Tryz.underlying39 Tryz.underlying5 Tryz.underlying9 hc
theorem own_bytesV {w : World} {B n : Nat} {v : Value} {b : List UInt8} (h : w.ownsRow B 5 1 v n (bcells b)) : BytesV w (fun k => B ≤ k) v b := BytesV.own h (fun k hk => hk)
theorem Kp.shed {L : List Nat} {B B' : Nat} {x y : World} (h : Kp L B x y) (hL : ∀ k ∈ L, B' ≤ k) (hB : B' ≤ B) : Kp [] B' x y :=
  ⟨h.os, h.tape, h.output, h.size, fun k hk _ => h.block k (by omega) (fun e => by have := hL k e; omega)⟩
def knownP (w : World) (e : Ending) (w' : World) : Prop := e = .returned (.bool true) ∧ Kp [] w.heap.size w w'
end Go.Proofs.YtdabflkejhoghaaGreat.Hand
namespace Go.Proofs.YtdabflkejhoghaaGreat.Hand
open Go Go.RowKit Go.Proofs.YtdabflkejhoghaaGreat.HW Go.Proofs.YtdabflkejhoghaaGreatW.PrintLast Go.Proofs.YtdabflkejhoghaaGreat.HW
attribute [local go_sem] max2_int min2_int max_two min_two
set_option linter.unusedVariables false
set_option linter.unusedSimpArgs false
def putZ (n m k : Nat) : List UInt8 := List.replicate (m - k) 0 ++ putB n k
theorem putZ_length {n m k : Nat} (h : k ≤ m) : (putZ n m k).length = m := by simp [putZ, putB_length]; omega
theorem putZ_zero (n m : Nat) : putZ n m 0 = List.replicate m 0 := by simp [putZ, putB]
theorem putZ_all (n m : Nat) : putZ n m m = putB n m := by simp [putZ]
theorem putZ_set (n m k : Nat) (h : k < m) : (putZ n m k).set (m - 1 - k) (UInt8.ofNat (n / 256 ^ k)) = putZ n m (k + 1) := by
  unfold putZ
  have e : m - k = (m - (k + 1)) + 1 := by omega
  rw [e, List.replicate_succ', List.append_assoc, List.set_append_right _ _ (by simp; omega)]
  have e2 : m - 1 - k - (List.replicate (m - (k + 1)) (0 : UInt8)).length = 0 := by simp; omega
  rw [e2]; rfl
theorem bcells_set (l : List UInt8) (j : Nat) (c : UInt8) : (bcells l).set j (.int .u8 (c.toNat : Int)) = bcells (l.set j c) := by unfold bcells; rw [← List.map_set]
theorem put_byte (n k : Nat) : ((n : Int) / 2 ^ (8 * k) % 256) = (((UInt8.ofNat (n / 256 ^ k)).toNat : Nat) : Int) := by
  have e : (UInt8.ofNat (n / 256 ^ k)).toNat = n / 256 ^ k % 256 := by simp
  rw [e]
  have h2 : (2 : Nat) ^ (8 * k) = 256 ^ k := by rw [Nat.pow_mul]
  rw [← h2, Int.natCast_emod, Int.natCast_ediv, Int.natCast_pow]
  rfl
theorem mk_zeros (n : Nat) : (madeCells (Value.int .u8 0).cells (n * 1)).toList = bcells (List.replicate n 0) := by
  unfold madeCells bcells
  apply List.ext_getElem
  · simp
  · intro i h1 h2
    simp [Value.cells, Nat.mod_one]
/-- make([]byte, n) -/
theorem wpList_mkB {w : World} {ops : Array Oper} {rest : List Oper} {o : Oper} {a : Act} {Q : Exit → Act → World → Prop} (hg : o.guard = none) (l c : Operand) (hop : o.op = Op.makeSlice 39 l c) (kl kc : IntKind) (L C : Int) (n : Nat) (hl : a.eval l = .int kl L) (hc : a.eval c = .int kc C)
    (hL : L = (n : Int)) (hC : C = (n : Int)) (hn : n ≤ 140737488355328)
    (hK : ∀ w', w'.ownsRow w.heap.size 5 1 (.slice (some ⟨w.heap.size, 0, none⟩) n n) n (bcells (List.replicate n 0)) → Kp [] w.heap.size w w' → wpList Tryz.prog ops Q rest (a.put o.dst (.slice (some ⟨w.heap.size, 0, none⟩) n n)) w') : wpList Tryz.prog ops Q (o :: rest) a w := by
  obtain ⟨i0, hi, hz0, hz1, hz2⟩ := info_parts infoByte
  exact wpList_make_full w hg l c 39 hop w.heap.size 5 i0 (.int .u8 0) 1 Tryz.underlying39 hi hz0 hz1 kl kc L C n hl hc hL hC (by rw [hz2]; omega) (by unfold maxLen; omega) (Nat.le_refl _) (fun w' h1 h2 => hK w' (by rw [← mk_zeros]; exact h1) (kp_grown h2 (by simp) (Nat.le_refl _)))
theorem own_cell {w : World} {B E g n c : Nat} {xs : List Value} (h : w.ownsRow B E 1 (.slice (some ⟨g, 0, none⟩) n c) n xs) (j : Nat) (hj : j < xs.length) : w.cell? ⟨g, j, none⟩ = some xs[j] ∧ w.frozen? ⟨g, j, none⟩ = false := by
  refine ⟨?_, h.frozenAt j⟩
  obtain ⟨hl, hv⟩ := h
  rcases hv with ⟨he, _⟩ | ⟨g', cap, cur, he, hg, hb, h1, h2, h3, h4⟩
  · cases he
  · injection he with he _ _
    injection he with he
    injection he with he
    subst he
    rw [Lib.cell_of_heap hb, ← Array.getElem?_toList]
    have h5 : (cur.toList.take (n * 1))[j]? = xs[j]? := by rw [h4]
    rw [List.getElem?_take_of_lt (by omega)] at h5
    rw [h5, List.getElem?_eq_getElem hj]
set_option maxHeartbeats 800000 in
set_option maxRecDepth 100000 in
theorem nPut (n m : Nat) (w : World) (hm1 : 1 ≤ m) (hm8 : m ≤ 8) (hn : n < 18446744073709551616) :
    Calls Tryz.prog 82 #[.int .u64 (n : Int), .int .i64 (m : Int)] w (NewB w (putB n m)) := by
  have d1 : decide (0 ≤ (m : Int)) = true := decide_eq_true (by omega)
  unfold NewB
  rw [putB_length]
  go_enter Tryz.func82, Tryz.ntmps82
  go_wp2_with (at_make; go_must (refine wpList_mkB rfl _ _ rfl _ _ _ _ m rfl rfl rfl rfl (by omega) ?_; intro w2 ho2 hk2))
  obtain ⟨g, hg⟩ : ∃ g, g = w.heap.size := ⟨_, rfl⟩
  rw [← hg] at ho2 ⊢
  have hI0 : Hid (w2.ownsRow g 5 1 (.slice (some ⟨g, 0, none⟩) m m) m (bcells (putZ n m 0)) ∧ Kp [] g w w2) := ⟨by rw [putZ_zero]; exact ho2, by rw [hg]; exact hk2⟩
  have HG := Lib.hid hg
  clear ho2 hk2 d1 hg
  go_loopw [13] (fun i wr => ∃ k : Nat, k ≤ m ∧ i = .int .i64 (k : Int) ∧ Hid (wr.ownsRow g 5 1 (.slice (some ⟨g, 0, none⟩) m m) m (bcells (putZ n m k)) ∧ Kp [] g w wr)) (fun i _ => m - (intOf i).toNat)
  case atStart => exact ⟨0, by omega, rfl, hI0⟩
  case round =>
    obtain ⟨k, hk, rfl, HI⟩ := hrel
    by_cases hlt : k < m
    · have e1 : IntKind.i64.wrap ((m : Int) - 1 - (k : Int)) = ((m - 1 - k : Nat) : Int) := by
        rw [show (m : Int) - 1 - (k : Int) = ((m - 1 - k : Nat) : Int) by omega]; exact IntWalk.i64_in _ (by omega)
      obtain ⟨i, hi⟩ : ∃ i, i = m - 1 - k := ⟨_, rfl⟩
      rw [← hi] at e1
      have him : i < m := by omega
      have hlen : (bcells (putZ n m k)).length = m := by rw [bcells_len, putZ_length hk]
      obtain ⟨cv, hc, hf⟩ : ∃ cv, wr.cell? ⟨g, i, none⟩ = some cv ∧ wr.frozen? ⟨g, i, none⟩ = false := ⟨_, own_cell HI.out.1 i (by omega)⟩
      have HV := Lib.hid (put_byte n k)
      have hst := HI.out.1.stored i (.int .u8 (((UInt8.ofNat (n / 256 ^ k)).toNat : Nat) : Int))
      rw [bcells_set, hi, putZ_set n m k hlt, ← hi] at hst
      have HS := Lib.hid hst
      have d4 : decide (0 ≤ 8 * (k : Int)) = true := decide_eq_true (by omega)
      clear hst hlen hi
      go_wp2
      go_roundw
      case rel =>
        refine ⟨k + 1, by omega, by go_num, ?_⟩
        rw [HV.out]
        exact ⟨HS.out.1, HI.out.2.setCell (.inl (Nat.le_refl _)) _ _ _⟩
      case measure => simp [intOf]; omega
    · obtain rfl : k = m := by omega
      go_wp2
      go_ret
      rw [putZ_all] at HI
      have := HI.out
      rw [HG.out] at this ⊢
      exact ⟨_, rfl, this.1, this.2.below⟩
end Go.Proofs.YtdabflkejhoghaaGreat.Hand
namespace Go.Proofs.YtdabflkejhoghaaGreat.Hand
open Go Go.RowKit Go.Maps Go.WideMaps
set_option linter.unusedVariables false
set_option linter.unusedSimpArgs false
set_option maxHeartbeats 1600000 in
set_option maxRecDepth 100000 in
/-- what came of a joining of three -/
theorem dConcat3 {A1 A2 A3 : Nat → Prop} (blk : Nat) (v1 v2 v3 : Value) (b1 b2 b3 : List UInt8) (w : World) (k1 : w.cell? ⟨blk, 0, none⟩ = some v1) (k2 : w.cell? ⟨blk, 1, none⟩ = some v2) (k3 : w.cell? ⟨blk, 2, none⟩ = some v3) (hblk : blk < w.heap.size) (h1 : BytesV w A1 v1 b1) (h2 : BytesV w A2 v2 b2) (h3 : BytesV w A3 v3 b3)
    (hlen : b1.length + b2.length + b3.length ≤ 140737488355328) : Calls Tryz.prog 66 #[.slice (some ⟨blk, 0, none⟩) 3 3] w (NewB w (b1 ++ b2 ++ b3)) := by
  obtain ⟨a1, c1, rfl, hc1, _⟩ := id h1
  obtain ⟨a2, c2, rfl, hc2, _⟩ := id h2
  obtain ⟨a3, c3, rfl, hc3, _⟩ := id h3
  unfold NewB
  have hG : ∀ w, Calls Tryz.prog 83 #[.slice none 0 0, .int .i64 ((b1.length : Int) + (b2.length : Int) + (b3.length : Int))] w fun e w' => ∃ v, e = .returned v ∧ w'.ownsRow w.heap.size 5 1 v 0 [] ∧ Below w.heap.size w w' := fun w => by
    have := dGrow (b1.length + b2.length + b3.length) w hlen
    rwa [Int.natCast_add, Int.natCast_add] at this
  go_enter Tryz.func66, Tryz.ntmps66
  go_wp2
  refine wp_loop_rounds 4 ?_
  rw [rounds_succ]
  go_wp2
  rw [rounds_succ]
  go_wp2
  rw [rounds_succ]
  go_wp2
  rw [rounds_succ]
  go_wp2_with (go_at_call 83; go_must ((with_reducible refine (hG _).mono ?_); rintro e w1 ⟨v, rfl, ho, hb⟩))
  have j1 : w1.cell? ⟨blk, 0, none⟩ = some (.slice a1 b1.length c1) := (hb.cell (p := ⟨blk, 0, none⟩) hblk).trans k1
  have j2 : w1.cell? ⟨blk, 1, none⟩ = some (.slice a2 b2.length c2) := (hb.cell (p := ⟨blk, 1, none⟩) hblk).trans k2
  have j3 : w1.cell? ⟨blk, 2, none⟩ = some (.slice a3 b3.length c3) := (hb.cell (p := ⟨blk, 2, none⟩) hblk).trans k3
  have hs := hb.size
  have H1 : BytesV w1 (fun k => k < w.heap.size) (.slice a1 b1.length c1) b1 := h1.mono hs (fun k _ hk => ⟨hk, hb.block k hk⟩)
  have H2 : BytesV w1 (fun k => k < w.heap.size) (.slice a2 b2.length c2) b2 := h2.mono hs (fun k _ hk => ⟨hk, hb.block k hk⟩)
  have H3 : BytesV w1 (fun k => k < w.heap.size) (.slice a3 b3.length c3) b3 := h3.mono hs (fun k _ hk => ⟨hk, hb.block k hk⟩)
  refine wp_loop_rounds 4 ?_
  rw [rounds_succ]
  go_wp2_with (at_builtin; go_must (refine wpList_appB rfl _ _ rfl w.heap.size v 0 [] rfl ho rfl H1 (by omega) hs ?_; intro v2 w2 ho2 hg2))
  have hv : ∀ k, v.ownBlock = some k → w.heap.size ≤ k := own_ge ho
  have hk2 : Kp [] w.heap.size w1 w2 := kp_grown hg2 hv hs
  have l2 : w2.cell? ⟨blk, 1, none⟩ = some (.slice a2 b2.length c2) := (hk2.cell (p := ⟨blk, 1, none⟩) hblk (by simp)).trans j2
  have l3 : w2.cell? ⟨blk, 2, none⟩ = some (.slice a3 b3.length c3) := (hk2.cell (p := ⟨blk, 2, none⟩) hblk (by simp)).trans j3
  have H22 : BytesV w2 (fun k => k < w.heap.size) (.slice a2 b2.length c2) b2 := H2.mono hk2.size (fun k hk _ => ⟨hk, hk2.block k hk (by simp)⟩)
  have H32 : BytesV w2 (fun k => k < w.heap.size) (.slice a3 b3.length c3) b3 := H3.mono hk2.size (fun k hk _ => ⟨hk, hk2.block k hk (by simp)⟩)
  have hs2 := Nat.le_trans hs hk2.size
  clear j1 j2 j3
  rw [rounds_succ]
  go_wp2_with (at_builtin; go_must (refine wpList_appB rfl _ _ rfl w.heap.size v2 (0 + b1.length) ([] ++ bcells b1) rfl ho2 rfl H22 (by omega) hs2 ?_; intro v3 w3 ho3 hg3))
  have hk3 : Kp [] w.heap.size w2 w3 := kp_grown hg3 (own_ge ho2) hs2
  have m3 : w3.cell? ⟨blk, 2, none⟩ = some (.slice a3 b3.length c3) := (hk3.cell (p := ⟨blk, 2, none⟩) hblk (by simp)).trans l3
  have H33 : BytesV w3 (fun k => k < w.heap.size) (.slice a3 b3.length c3) b3 := H32.mono hk3.size (fun k hk _ => ⟨hk, hk3.block k hk (by simp)⟩)
  have hs3 := Nat.le_trans hs2 hk3.size
  clear l2 l3
  rw [rounds_succ]
  go_wp2_with (at_builtin; go_must (refine wpList_appB rfl _ _ rfl w.heap.size v3 (0 + b1.length + b2.length) ([] ++ bcells b1 ++ bcells b2) rfl ho3 rfl H33 (by omega) hs3 ?_; intro v4 w4 ho4 hg4))
  rw [rounds_succ]
  go_wp2
  go_ret
  have hk4 : Kp [] w.heap.size w3 w4 := kp_grown hg4 (own_ge ho3) hs3
  exact ⟨v4, rfl, by rw [bcells_app, bcells_app]; simpa [Nat.zero_add, Nat.add_assoc] using ho4, ((((Kp.of_below hb (Nat.le_refl _)).trans hk2).trans hk3).trans hk4).below⟩
end Go.Proofs.YtdabflkejhoghaaGreat.Hand
namespace Go.Proofs.YtdabflkejhoghaaGreat.Hand
open Go Go.RowKit Go.Maps Go.WideMaps
set_option linter.unusedVariables false
set_option linter.unusedSimpArgs false
theorem own_bytes {w : World} {B : Nat} {v : Value} {b : List UInt8} {n : Nat} (h : w.ownsRow B 5 1 v n (bcells b)) : BytesV w (fun k => B ≤ k) v b := BytesV.own h (fun k hk => hk)
theorem own_kp {w w' : World} {B E n : Nat} {v : Value} {xs : List Value} (h : w.ownsRow B E 1 v n xs) {B' : Nat} (hk : Kp [] B' w w') (hB : w.heap.size ≤ B') : w'.ownsRow B E 1 v n xs := by
  obtain ⟨h0, h1⟩ := h
  refine ⟨h0, ?_⟩
  rcases h1 with h1 | ⟨g, cap, cur, e, hg, hb, r⟩
  · exact .inl h1
  · exact .inr ⟨g, cap, cur, e, hg, (hk.block g (by have := (Array.getElem?_eq_some_iff.1 hb).1; omega) (by simp)).trans hb, r⟩
/-- what crc.Frame answers -/
def FrameP (w : World) (seq : Nat) (b : List UInt8) (e : Ending) (w' : World) : Prop := ∃ v, e = .returned (.tuple #[v, .int .u16 0]) ∧ w'.ownsRow w.heap.size 5 1 v (16 + b.length) (bcells (frameB seq b)) ∧ Kp [] w.heap.size w w'
theorem cells2 (w : World) (v1 v2 : Value) (t : TypeId) : (w.alloc (.cells #[v1, v2] t)).cell? ⟨w.heap.size, 0, none⟩ = some v1 ∧ (w.alloc (.cells #[v1, v2] t)).cell? ⟨w.heap.size, 1, none⟩ = some v2 := by
  have h := World.alloc_heap_new w (.cells #[v1, v2] t)
  exact ⟨by rw [Lib.cell_of_heap h]; rfl, by rw [Lib.cell_of_heap h]; rfl⟩
theorem cells3 (w : World) (v1 v2 v3 : Value) (t : TypeId) : (w.alloc (.cells #[v1, v2, v3] t)).cell? ⟨w.heap.size, 0, none⟩ = some v1 ∧ (w.alloc (.cells #[v1, v2, v3] t)).cell? ⟨w.heap.size, 1, none⟩ = some v2 ∧ (w.alloc (.cells #[v1, v2, v3] t)).cell? ⟨w.heap.size, 2, none⟩ = some v3 := by
  have h := World.alloc_heap_new w (.cells #[v1, v2, v3] t)
  exact ⟨by rw [Lib.cell_of_heap h]; rfl, by rw [Lib.cell_of_heap h]; rfl, by rw [Lib.cell_of_heap h]; rfl⟩
theorem pieces2 {w : World} {blk : Nat} {v1 v2 : Value} {b1 b2 : List UInt8} {A1 A2 : Nat → Prop} (k1 : w.cell? ⟨blk, 0, none⟩ = some v1) (k2 : w.cell? ⟨blk, 1, none⟩ = some v2) (h1 : BytesV w A1 v1 b1) (h2 : BytesV w A2 v2 b2) : Pieces w blk [(v1, b1), (v2, b2)] := by
  intro i hi
  match i, hi with
  | 0, _ => exact ⟨k1, A1, h1⟩
  | 1, _ => exact ⟨k2, A2, h2⟩
theorem cFrame_long (seq : Nat) (v : Value) (b : List UInt8) {A : Nat → Prop} (w : World) (h : BytesV w A v b) (hl : 65536 < b.length) :
    Calls Tryz.prog 63 #[.int .u64 (seq : Int), v] w fun e w' => e = .returned (.tuple #[.slice none 0 0, .int .u16 3]) ∧ w = w' := by
  obtain ⟨ao, cap, rfl, hc1, hc2, -⟩ := h
  have hd : decide (65536 < b.length) = true := decide_eq_true hl
  have hd' : decide ((65536 : Int) < (b.length : Int)) = true := decide_eq_true (by omega)
  go_enter Tryz.func63, Tryz.ntmps63
  go_wp2
  go_ret2
  exact ⟨rfl, rfl⟩
set_option maxHeartbeats 1600000 in
set_option maxRecDepth 100000 in
theorem cFrame (seq : Nat) (v : Value) (b : List UInt8) {A : Nat → Prop} (w : World) (h : BytesV w A v b) (hs : seq < 18446744073709551616) (hl : b.length ≤ 65536) :
    Calls Tryz.prog 63 #[.int .u64 (seq : Int), v] w (FrameP w seq b) := by
  obtain ⟨ao, cap, rfl, hc1, hc2, -⟩ := id h
  obtain ⟨m, hm⟩ : ∃ m, m = b.length := ⟨_, rfl⟩
  rw [← hm] at h hc1 hl
  have HB := Lib.hid h.low
  have HM := Lib.hid hm
  unfold FrameP
  rw [← hm]
  have hd : decide (65536 < m) = false := decide_eq_false (by omega)
  have hd' : decide ((65536 : Int) < (m : Int)) = false := decide_eq_false (by omega)
  clear h hm
  go_enter Tryz.func63, Tryz.ntmps63
  go_wp2_with fail
  refine (nPut m 4 _ (by omega) (by omega) (by omega)).mono ?_
  rintro e w1 ⟨v1, rfl, ho1, k1⟩
  obtain ⟨o1, n1, p1, rfl, hn1⟩ := own_shape ho1
  have HO1 := Lib.hid ho1
  have HK1 := Lib.hid (Kp.of_below (L := []) k1 (Nat.le_refl _))
  clear hd hd' ho1 k1
  go_wp2_with fail
  refine (nPut seq 8 _ (by omega) (by omega) hs).mono ?_
  rintro e w2 ⟨v2, rfl, ho2, k2⟩
  obtain ⟨o2, n2, p2, rfl, hn2⟩ := own_shape ho2
  have HO2 := Lib.hid ho2
  have HK2 := Lib.hid (Kp.of_below (L := []) k2 (Nat.le_refl _))
  clear ho2 k2
  go_wp2_with fail
  obtain ⟨W3, hW3⟩ : ∃ W, W = w2.alloc (.cells #[.slice o1 n1 p1, .slice o2 n2 p2] 39) := ⟨_, rfl⟩
  have hc3 := cells2 w2 (.slice o1 n1 p1) (.slice o2 n2 p2) 39
  have hK3 : Kp [] w2.heap.size w2 W3 := by rw [hW3]; exact (Kp.refl _ _ _).alloc (Nat.le_refl _) _
  have hz3 : w2.heap.size < W3.heap.size := by rw [hW3]; simp
  rw [← hW3] at hc3 ⊢
  have hB1 := ((own_bytes HO1.out).kp HK2.out (by simp)).kp hK3 (by simp)
  have hB2 := (own_bytes HO2.out).kp hK3 (by simp)
  have HK3 := Lib.hid hK3
  have HZ3 := Lib.hid hz3
  clear hW3 hK3
  refine (dConcat w2.heap.size _ _ _ _ W3 hc3.1 hc3.2 hz3 hB1 hB2 (by rw [putB_length, putB_length]; omega)).mono ?_
  rintro e w4 ⟨v4, rfl, ho4, k4⟩
  obtain ⟨o4, n4, p4, rfl, hn4⟩ := own_shape ho4
  have HO4 := Lib.hid ho4
  have HK4 := Lib.hid (Kp.of_below (L := []) k4 (Nat.le_refl _))
  have HB4 : Hid (BytesV w4 (fun k => k < w.heap.size) (.slice ao m cap) b) := by
    have k0 := HK1.out.trans ((HK2.out.trans ((HK3.out.mono (by simp) HK2.out.size).trans (HK4.out.mono (by simp) (Nat.le_trans HK2.out.size (Nat.le_of_lt HZ3.out))))).mono (by simp) HK1.out.size)
    exact HB.out.kp k0 (by simp)
  clear ho4 k4 hc3 hB1 hB2 hz3
  go_wp2_with fail
  have KA : Kp [] w.heap.size w w4 := HK1.out.trans ((HK2.out.trans ((HK3.out.mono (by simp) HK2.out.size).trans (HK4.out.mono (by simp) (Nat.le_trans HK2.out.size (Nat.le_of_lt HZ3.out))))).mono (by simp) HK1.out.size)
  have HKA := Lib.hid KA
  have HF4 : Hid (BytesV w4 (fun k => k < w4.heap.size) (.slice o4 n4 p4) (frontB seq b)) := by
    have h := (own_bytes HO4.out).low
    unfold frontB; rw [← HM.out]; exact h
  clear KA
  obtain ⟨W5, hW5⟩ : ∃ W, W = w4.alloc (.cells #[.slice o4 n4 p4, .slice ao m cap] 39) := ⟨_, rfl⟩
  have hc5 := cells2 w4 (.slice o4 n4 p4) (.slice ao m cap) 39
  have hK5 : Kp [] w4.heap.size w4 W5 := by rw [hW5]; exact (Kp.refl _ _ _).alloc (Nat.le_refl _) _
  have hz5 : w4.heap.size < W5.heap.size := by rw [hW5]; simp
  rw [← hW5] at hc5 ⊢
  have hwz := HKA.out.size
  have hP5 := pieces2 hc5.1 hc5.2 (HF4.out.kp hK5 (by simp)) (HB4.out.kp hK5 (by simp))
  have HK5 := Lib.hid (HKA.out.trans (hK5.mono (by simp) hwz))
  have HF5 := Lib.hid (HF4.out.kp hK5 (by simp))
  clear hW5
  refine (csum [(.slice o4 n4 p4, frontB seq b), (.slice ao m cap, b)] w4.heap.size W5 (by simp) hz5 hP5).mono ?_
  rintro e w6 ⟨rfl, k6⟩
  have HF6 := Lib.hid (HF5.out.kp k6 (by simp))
  have HK6 := Lib.hid (HK5.out.trans (k6.mono (by simp) HK5.out.size))
  obtain ⟨s, hs6⟩ : ∃ s, s = sumN (catP [(.slice o4 n4 p4, frontB seq b), (.slice ao m cap, b)]) := ⟨_, rfl⟩
  have hsl : s < 4294967296 := by rw [hs6]; exact sumN_lt _
  have hs7 : s = sumN (frontB seq b ++ b) := by rw [hs6]; simp [catP]
  have HS := Lib.hid hs7
  clear hs7
  rw [← hs6]
  clear hs6 hP5 hc5 hz5 hK5 hwz k6
  go_wp2_with fail
  refine (nPut s 4 _ (by omega) (by omega) (by omega)).mono ?_
  rintro e w7 ⟨v7, rfl, ho7, k7⟩
  obtain ⟨o7, n7, p7, rfl, hn7⟩ := own_shape ho7
  have k7' := Kp.of_below (L := []) k7 (Nat.le_refl _)
  have HP7 := Lib.hid (own_bytes ho7)
  have HF7 := Lib.hid (HF6.out.kp k7' (by simp))
  have HK7 := Lib.hid (HK6.out.trans (k7'.mono (by simp) HK6.out.size))
  clear ho7 k7 k7'
  go_wp2_with fail
  obtain ⟨W8, hW8⟩ : ∃ W, W = w7.alloc (.cells #[.slice o4 n4 p4, .slice o7 n7 p7, .slice ao m cap] 39) := ⟨_, rfl⟩
  have hc8 := cells3 w7 (.slice o4 n4 p4) (.slice o7 n7 p7) (.slice ao m cap) 39
  have hK8 : Kp [] w7.heap.size w7 W8 := by rw [hW8]; exact (Kp.refl _ _ _).alloc (Nat.le_refl _) _
  have hz8 : w7.heap.size < W8.heap.size := by rw [hW8]; simp
  rw [← hW8] at hc8 ⊢
  have HK8 := Lib.hid (HK7.out.trans (hK8.mono (by simp) HK7.out.size))
  have hB8 := HB.out.kp HK8.out (by simp)
  refine (dConcat3 w7.heap.size _ _ _ _ _ _ W8 hc8.1 hc8.2.1 hc8.2.2 hz8 (HF7.out.kp hK8 (by simp)) (HP7.out.kp hK8 (by simp)) hB8 (by rw [frontB_length, putB_length, ← HM.out]; omega)).mono ?_
  rintro e w9 ⟨v9, rfl, ho9, k9⟩
  have HK9 := Lib.hid (HK8.out.trans ((Kp.of_below (L := []) k9 (Nat.le_refl _)).mono (by simp) HK8.out.size))
  obtain ⟨o9, n9, p9, rfl, hn9⟩ := own_shape ho9
  have HO9 := Lib.hid (ho9.base HK8.out.size)
  clear ho9 k9 hc8 hK8 hz8 hB8 hW8
  go_wp2_with fail
  go_ret2
  refine ⟨_, rfl, ?_, HK9.out⟩
  have h := HO9.out
  have e1 : frontB seq b ++ putB s 4 ++ b = frameB seq b := by unfold frameB; rw [HS.out, List.append_assoc]
  rw [e1, frameB_length, ← HM.out] at h
  exact h
end Go.Proofs.YtdabflkejhoghaaGreat.Hand
