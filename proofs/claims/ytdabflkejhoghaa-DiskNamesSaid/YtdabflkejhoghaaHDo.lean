/- Crash. -/
import Derived.Below
import Derived.Deep.Draws
import Derived.Deep.AppendLies
import Derived.Maps.AppendAt
import Derived.OwnWalk
import Derived.Laws.BytesArg
import Derived.Laws.MakeOwn
import Derived.Laws.OwnMore
import Derived.Deep.OwnRows
import Derived.Tactics
import Derived.Lib.ConvBytes
import Derived.Laws.Slices
import Derived.WalkKit
import Derived.KernelRfl
import Derived.RowKit3
import Derived.Deep.LoopGhost
import Derived.Deep.QuietTactic
import Derived.BigQuiet
import Derived.WideLaws
import Derived.Deep.DeepCutAuto
import Derived.Deep.CutBlock
import Derived.Deep.RegionHeld3
import Derived.Laws.Rows
import Derived.Lib.AppendStr
import Derived.ArgAppend
import Derived.Laws.IdiomCopy
import Derived.OrdersHeld
import Derived.Laws.BitsLemmas
import Derived.RowKit
import Derived.Outline
import Derived.Maps.Own
import Derived.Maps.OwnOps
import Derived.Maps.OwnSet
import Derived.Maps.Views
import Derived.Maps.RangeWalk
import Derived.Maps.Ext
import Derived.RangeFuncOwn
import Derived.OneCell
import Derived.Deep.DeepMust
import Derived.Lib.Hide
import Derived.StillTailTactics
import Derived.Laws.AppendOwnNone
import Derived.WalkMore
import Derived.Test.YtdabflkejhoghaaHDn
namespace Go.Proofs.Ytdabflkejhoghaa.Hand
open Go Go.RowKit Go.Maps Go.WideMaps Go.Sort
set_option linter.unusedVariables false
theorem own_row {w : World} {B E n : Nat} {v : Value} {xs : List Value} (h : w.ownsRow B E 1 v n xs) : (v = .slice none 0 0 ∧ n = 0) ∨ ∃ g cap, v = .slice (some ⟨g, 0, none⟩) n cap ∧ B ≤ g ∧ g < w.heap.size ∧ ∀ j u, xs[j]? = some u → w.cell? ⟨g, j, none⟩ = some u := by
  obtain ⟨hl, h⟩ := h
  rcases h with h | ⟨g, cap, cur, rfl, hg, hb, h1, h2, h3, h4⟩
  · exact .inl h
  · refine .inr ⟨g, cap, rfl, hg, (Array.getElem?_eq_some_iff.1 hb).1, fun j u hu => ?_⟩
    rw [Lib.cell_of_heap hb, ← Array.getElem?_toList]
    rw [← h4] at hu
    have hj : j < n * 1 := by
      have := (List.getElem?_eq_some_iff.1 hu).1
      simp at this; omega
    rwa [List.getElem?_take_of_lt hj] at hu
theorem vint {k : IntKind} {a b : Int} (h : a = b) : Value.int k a = .int k b := by rw [h]
/-- the end of a crash -/
theorem crash_fin {A : Nat → Prop} {p mb : Nat} {d e : Dk} {keep : Int} {w w' : World} (h : IsDisk w A p mb e) (hf : e.files = (d.crash keep).files) (hr : e.room = d.room) (ho : (d.crash keep).Ok)
    (hw : w' = (w.setCell ⟨p, 2, none⟩ (.bool false)).setCell ⟨p, 4, none⟩ (.bool false)) : IsDisk w' A p mb (d.crash keep) ∧ Kp [p] w.heap.size w w' := by
  subst hw
  have hk : Kp [p] w.heap.size w ((w.setCell ⟨p, 2, none⟩ (.bool false)).setCell ⟨p, 4, none⟩ (.bool false)) := ((Kp.refl _ _ _).setCell (.inr (by simp)) _ _ _).setCell (.inr (by simp)) _ _ _
  obtain ⟨left, hp, hl1, hl2, _⟩ := h.heap
  refine ⟨h.block hk (left := left) ?_ ⟨hl1, hl2, fun k hk => by cases hk⟩ hf.symm ho, hk⟩
  simp [World.setCell, Array.getElem?_modify, hp, Dk.crash, hr]
set_option maxHeartbeats 4000000 in
set_option maxRecDepth 100000 in
theorem dCrash (A : Nat → Prop) (p mb : Nat) (d : Dk) (keep : Int) (w : World) (h : IsDisk w A p mb d) (hkr : -9223372036854775808 ≤ keep ∧ keep ≤ 9223372036854775807) :
    Calls Try.prog 32 #[.pointer (some ⟨p, 0, none⟩), .int .i64 keep] w fun e w' => e = .returned (.tuple #[]) ∧ IsDisk w' A p mb (d.crash keep) ∧ Kp [p, mb] w.heap.size w w' := by
  obtain ⟨K, hK⟩ : ∃ K, K = keep.toNat := ⟨_, rfl⟩
  have hKb : K ≤ 9223372036854775807 := by omega
  have HKK := Lib.hid hK
  have hok := h.ok.crash keep
  clear hK
  go_enter Try.func32, Try.ntmps32
  go_upto_region 1 with fail
  go_cut [4] (fun l wx => l = .int .i64 (K : Int) ∧ w = wx)
  case first =>
    have hK := HKK.out
    go_wp2
    all_goals (go_meet; exact ⟨vint (by omega), rfl⟩)
  case rest =>
    obtain ⟨rfl, rfl⟩ := hcut
    obtain ⟨nf, hnf⟩ : ∃ nf, nf = d.files.length := ⟨_, rfl⟩
    have hnf8 : nf ≤ 8 := by rw [hnf]; exact h.ok.few
    have hN := dNames A p mb d w h
    unfold NamesP at hN
    rw [← hnf] at hN
    have HNF := Lib.hid hnf
    clear hnf
    go_wp2_with (go_at_call 29; go_must ((with_reducible refine hN.mono ?_); rintro e w1 ⟨v, rfl, ho, hk1⟩; have HO := Lib.hid ho; have HK1 := Lib.hid hk1; clear ho hk1; rcases own_row HO.out with ⟨rfl, hn0⟩ | ⟨g, cap, rfl, hg, hg1, hcells⟩))
    · subst hn0
      have h1 := h.kp_ge HK1.out
      obtain ⟨left, hp, _⟩ := h1.heap
      have c2 : w1.cell? ⟨p, 2, none⟩ = some (.bool d.fuse.isSome) := by rw [Lib.cell_of_heap hp]; rfl
      have c4 : w1.cell? ⟨p, 4, none⟩ = some (.bool d.dead) := by rw [Lib.cell_of_heap hp]; rfl
      have f2 : w1.frozen? ⟨p, 2, none⟩ = false := Lib.frozen_of_heap hp 2
      have f4 : w1.frozen? ⟨p, 4, none⟩ = false := Lib.frozen_of_heap hp 4
      have HP := Lib.hid hp
      clear hp hN
      refine wp_loop_rounds 1 ?_
      rw [rounds_succ]
      go_wp2
      go_end0
      have hnil : d.files = [] := List.length_eq_zero_iff.1 HNF.out.symm
      obtain ⟨r1, r2⟩ := crash_fin (d := d) (keep := keep) h1 (by show d.files = crashL keep.toNat d.files; rw [hnil]; rfl) rfl hok rfl
      exact ⟨rfl, r1, (HK1.out.mono (by simp) (Nat.le_refl _)).trans (r2.mono (by simp) HK1.out.size)⟩
    · have hmb := h.lt.2
      have hA1 := h.apart
      have hI0 : IsDisk w1 A p mb (d.part K 0) ∧ Kp [mb] w1.heap.size w1 w1 := ⟨by rw [part_zero]; exact h.kp_ge HK1.out, Kp.refl _ _ _⟩
      have HI0 := Lib.hid hI0
      have HC := Lib.hid hcells
      clear hI0 hcells hN
      go_loopw [4, 16] (fun l i wr => ∃ k : Nat, k ≤ nf ∧ l = .int .i64 ((spend K (d.files.take k) : Nat) : Int) ∧ i = .int .i64 (k : Int) ∧ Hid (IsDisk wr A p mb (d.part K k) ∧ Kp [mb] w1.heap.size w1 wr)) (fun _ i _ => nf - (intOf i).toNat)
      case atStart => exact ⟨0, by omega, rfl, rfl, HI0⟩
      case round =>
        obtain ⟨k, hk, rfl, rfl, HI⟩ := hrel
        by_cases hlt : k < nf
        · have hlt2 : k < d.files.length := by rw [← HNF.out]; exact hlt
          obtain ⟨f, hf⟩ : ∃ f, f = d.files[k] := ⟨_, rfl⟩
          obtain ⟨hp1, hp2, hp3⟩ := part_step h.ok (K := K) hlt2
          rw [← hf] at hp1 hp2 hp3
          have hfm : f ∈ d.files := by rw [hf]; exact List.getElem_mem _
          have hfl := h.ok.lasts f hfm
          have hfu := used_mem hfm
          have hnl : f.name.length ≤ maxLen := by have := named_le (h.ok.names f hfm); unfold maxLen; omega
          have hflen : f.b.length ≤ 1048576 := by have := h.ok.used; have := h.ok.room; omega
          have hcell : wr.cell? ⟨g, k, none⟩ = some (.string ⟨f.name.toArray⟩) := by
            rw [HI.out.2.cell (p := ⟨g, k, none⟩) hg1 (by simp; omega)]
            refine HC.out k _ ?_
            show ((names d.files).map encStr)[k]? = _
            unfold names
            rw [List.getElem?_map, List.getElem?_map, List.getElem?_eq_getElem hlt2, ← hf]
            rfl
          have hok2 := h.ok.part K (k + 1)
          obtain ⟨L, hL⟩ : ∃ L, L = spend K (d.files.take k) := ⟨_, rfl⟩
          have hLK : L ≤ K := by rw [hL]; exact spend_le _ _
          obtain ⟨N, hN2⟩ : ∃ N, N = min (f.b.length - f.lasts) L := ⟨_, rfl⟩
          obtain ⟨gs, so, sc, c0, HGS, hown, hlo, hv⟩ := HI.out.1.ready f.name
          have hold : (d.part K k).old f.name = f := by unfold Dk.old; rw [hp1]; rfl
          rw [hold] at hlo hv
          have hpl := HI.out.1.lt.1
          have hsc := hv.cap.1
          rw [← hL] at hp2 hp3
          rw [← hL]
          have HF := Lib.hid hf; have HP2 := Lib.hid hp2; have HP3 := Lib.hid hp3; have HL := Lib.hid hL; have HN2 := Lib.hid hN2
          clear hf hp1 hp2 hp3 hL hN2 hold hfu
          go_upto_region 6 with (at_lookup; go_must (refine wpList_look rfl _ _ rfl mb _ gs rfl hown f.name rfl hnl _ _ hlo ?_))
          go_cut [8, 16] from 16 to 54 (fun n i wx => n = .int .i64 (N : Int) ∧ i = .int .i64 (k : Int) ∧ wx = wr.alloc (.cells #[.slice so f.b.length sc, .int .i64 (f.lasts : Int)] 103))
          case first =>
            have hNN := HN2.out
            go_wp2
            all_goals (go_meet; exact ⟨vint (by omega), rfl, rfl⟩)
          case rest =>
            obtain ⟨rfl, rfl, rfl⟩ := hcut
            have hNL : N ≤ L := by have := HN2.out; omega
            have hNf : f.lasts + N ≤ f.b.length := by have := HN2.out; omega
            go_wp2
            obtain ⟨w3, hw3⟩ : ∃ w3, w3 = (wr.alloc (.cells #[.slice so f.b.length sc, .int .i64 (f.lasts : Int)] 103)).drew := ⟨_, rfl⟩
            have d0 : w3.cell? ⟨p, 0, none⟩ = some (.map (some mb)) := by rw [hw3]; exact (World.cell?_alloc_past _ _ _ hpl).trans c0
            have k0 : w3.cell? ⟨wr.heap.size, 0, none⟩ = some (.slice so f.b.length sc) := by rw [hw3]; exact (Lib.cell_of_heap (World.alloc_heap_new wr _) 0).trans rfl
            have k1 : w3.cell? ⟨wr.heap.size, 1, none⟩ = some (.int .i64 (f.lasts : Int)) := by rw [hw3]; exact (Lib.cell_of_heap (World.alloc_heap_new wr _) 1).trans rfl
            have HW3 := Lib.hid hw3
            have hown3 : w3.ownsMap Try.prog 9 heldR mb gs.length (entsD gs) := by rw [hw3]; exact (hown.alloc _).drew
            have hn3 := few_g HGS.out (h.ok.part K k)
            have hcmp : ((f.lasts : Int) + (N : Int) ≤ (sc : Int)) := by omega
            have hcmp0 : (0 : Int) ≤ (f.lasts : Int) + (N : Int) := by omega
            have hwr : IntKind.i64.wrap ((f.lasts : Int) + (N : Int)) = (f.lasts : Int) + (N : Int) := IntWalk.i64_in _ ⟨by omega, by omega⟩
            have hto : ((f.lasts : Int) + (N : Int)).toNat = f.lasts + N := by omega
            refine wp_region_still_tail 17 (by kernel_rfl) (by kernel_rfl) ?_
            simp only [List.take_succ_cons, List.take_zero, List.drop_succ_cons, List.drop_zero]
            change wpStill _ _ (World.drew _) (fun a' => wpList _ _ _ _ a' (World.drew _)) _ _
            rw [← hw3]
            clear hw3
            repeat still_step
            refine wpStill_nil ?_
            clear hwr hto
            go_wp2_with (at_mapUpdate; go_must (refine wpList_put rfl _ _ _ rfl mb _ gs rfl hown3 hn3 f.name rfl hnl (.agg #[.slice so (f.lasts + N) sc, .int .i64 ((f.lasts : Int) + (N : Int))]) rfl ?_; intro w4 hown4 hk4; have HO4 := Lib.hid hown4; have HK4 := Lib.hid hk4; clear hown4 hk4))
            go_roundw
            case rel =>
              have hkr : Kp [] wr.heap.size wr w3 := by rw [HW3.out]; exact ((Kp.refl _ _ _).alloc (Nat.le_refl _) _).drew 1
              have h3 : IsDisk w3 A p mb (d.part K k) := HI.out.1.kp_ge hkr
              have hv4 : BytesV w4 A (.slice so (f.lasts + N) sc) (f.b.take (f.lasts + N)) := ((hv.kp hkr (by simp)).kp HK4.out (by simpa using hA1.2.2)).take (f.lasts + N) hNf
              have ec : crash1 L f = ⟨f.name, f.b.take (f.lasts + N), f.lasts + N⟩ := by unfold crash1; rw [← HN2.out]
              refine ⟨k + 1, by omega, ?_, by go_num, h3.putted HGS.out (h3.files HGS.out hown3) (crash1 L f, .agg #[.slice so (f.lasts + N) sc, .int .i64 ((f.lasts : Int) + (N : Int))]) rfl rfl HO4.out HK4.out ?_ ?_ hok2, ?_⟩
              · rw [HP3.out, ← HN2.out]; exact vint (by omega)
              · rw [ec]; exact ⟨_, rfl, hv4⟩
              · unfold Dk.part at HP2 ⊢; rw [← HP2.out]
              · exact (HI.out.2.trans (hkr.mono (by simp) HI.out.2.size)).trans (HK4.out.mono (by simp) (Nat.le_trans HI.out.2.size hkr.size))
            case measure => simp [intOf]; omega
        · have hkn : k = nf := by omega
          subst hkn
          obtain ⟨left, hp, _⟩ := HI.out.1.heap
          have c2 : wr.cell? ⟨p, 2, none⟩ = some (.bool (d.part K k).fuse.isSome) := by rw [Lib.cell_of_heap hp]; rfl
          have c4 : wr.cell? ⟨p, 4, none⟩ = some (.bool (d.part K k).dead) := by rw [Lib.cell_of_heap hp]; rfl
          have f2 : wr.frozen? ⟨p, 2, none⟩ = false := Lib.frozen_of_heap hp 2
          have f4 : wr.frozen? ⟨p, 4, none⟩ = false := Lib.frozen_of_heap hp 4
          have HP := Lib.hid hp
          clear hp
          go_wp2
          go_end0
          obtain ⟨r1, r2⟩ := crash_fin (d := d) (keep := keep) HI.out.1 (by rw [HNF.out, part_all, HKK.out]; rfl) rfl hok rfl
          exact ⟨rfl, r1, ((HK1.out.mono (by simp) (Nat.le_refl _)).trans (HI.out.2.mono (by simp) HK1.out.size)).trans (r2.mono (by simp) (Nat.le_trans HK1.out.size HI.out.2.size))⟩
set_option maxRecDepth 100000 in
theorem dCrash_nil (keep : Int) (w : World) : Calls Try.prog 32 #[.pointer none, .int .i64 keep] w fun e w' => e = .returned (.tuple #[]) ∧ w = w' := by
  go_enter Try.func32, Try.ntmps32
  go_wp2
  exact bodyPost_ret (results_none rfl _ _ _) rfl ⟨rfl, rfl⟩
theorem dSync_nil (nm : List UInt8) (w : World) : Calls Try.prog 27 #[.pointer none, .string ⟨nm.toArray⟩] w fun e w' => e = .returned (.bool false) ∧ w = w' := by
  go_enter Try.func27, Try.ntmps27
  go_wp2_with (go_at_call 60; (with_reducible refine (dthere_nil nm _).mono ?_); rintro e w1 ⟨rfl, rfl⟩)
  go_ret
  exact ⟨rfl, rfl⟩
theorem dDrop_nil (nm : List UInt8) (w : World) : Calls Try.prog 34 #[.pointer none, .string ⟨nm.toArray⟩] w fun e w' => e = .returned (.bool false) ∧ w = w' := by
  go_enter Try.func34, Try.ntmps34
  go_wp2_with (go_at_call 60; (with_reducible refine (dthere_nil nm _).mono ?_); rintro e w1 ⟨rfl, rfl⟩)
  go_ret
  exact ⟨rfl, rfl⟩
set_option maxRecDepth 100000 in
theorem dRename_nil (nm tn : List UInt8) (w : World) : Calls Try.prog 35 #[.pointer none, .string ⟨nm.toArray⟩, .string ⟨tn.toArray⟩] w fun e w' => e = .returned (.bool false) ∧ w = w' := by
  go_enter Try.func35, Try.ntmps35
  go_wp2_with (go_at_call 60; (with_reducible refine (dthere_nil nm _).mono ?_); rintro e w1 ⟨rfl, rfl⟩)
  go_ret
  exact ⟨rfl, rfl⟩
end Go.Proofs.Ytdabflkejhoghaa.Hand
