/- The reference's log: Read, gone, laid, state, behind. -/
import Derived.Below
import Derived.Deep.Draws
import Derived.Deep.AppendLies
import Derived.Maps.AppendAt
import Derived.OwnWalk
import Derived.Laws.BytesArg
import Derived.Laws.MakeOwn
import Derived.Laws.OwnMore
import Derived.Deep.OwnRows
import Derived.Tactics
import Derived.Lib.ConvBytes
import Derived.Laws.Slices
import Derived.WalkKit
import Derived.KernelRfl
import Derived.RowKit3
import Derived.Deep.LoopGhost
import Derived.Deep.QuietTactic
import Derived.BigQuiet
import Derived.WideLaws
import Derived.Deep.DeepCutAuto
import Derived.Deep.CutBlock
import Derived.Deep.RegionHeld3
import Derived.Laws.Rows
import Derived.Lib.AppendStr
import Derived.ArgAppend
import Derived.Laws.IdiomCopy
import Derived.OrdersHeld
import Derived.Laws.BitsLemmas
import Derived.RowKit
import Derived.Outline
import Derived.Maps.Own
import Derived.Maps.OwnOps
import Derived.Maps.OwnSet
import Derived.Maps.Views
import Derived.Maps.RangeWalk
import Derived.Maps.Ext
import Derived.RangeFuncOwn
import Derived.OneCell
import Derived.Deep.DeepMust
import Derived.Lib.Hide
import Derived.StillTailTactics
import Derived.Laws.AppendOwnNone
import Derived.WalkMore
import Derived.Lib.SlBytesConst
import Derived.WalkLawsBesides
import Derived.Laws.BitsAllLaws
import Derived.Test.YtdabflkejhoghaaGreatWLast
import Derived.Test.YtdabflkejhoghaaGreatHWa
import Derived.Test.YtdabflkejhoghaaGreatHRf
import Derived.Test.YtdabflkejhoghaaGreatHSc
namespace Go.Proofs.YtdabflkejhoghaaGreat.Hand
open Go Go.RowKit Go.Maps Go.WideMaps Go.Proofs.YtdabflkejhoghaaGreat.HW Go.Proofs.YtdabflkejhoghaaGreatW.PrintLast
set_option linter.unusedVariables false
set_option linter.unusedSimpArgs false
theorem IsT.form {w : World} {v : Value} {d : Dk} (h : IsT w v d) : ∃ (ao : Option Addr) (n cap : Nat) (left : Int), v = .agg #[.slice ao n cap, .int .i64 (d.room : Int), .bool d.fuse.isSome, .int .i64 left, .bool d.dead] ∧ n = d.files.length := by
  obtain ⟨fv, left, rfl, hf, -⟩ := h
  obtain ⟨ao, cap, rfl, -, -⟩ := hf.shape
  exact ⟨ao, _, cap, left, rfl, rfl⟩
def NoU8 (cs : Array Value) : Prop := ∀ (j : Nat) (x : Value), cs[j]? = some x → ∀ (n : Int), x ≠ .int .u8 n
theorem noU8_of {cs : Array Value} (h : ∀ x ∈ cs.toList, ∀ (n : Int), x ≠ .int .u8 n) : NoU8 cs := fun j x hx n => h x (by
  rw [← Array.getElem?_toList] at hx
  exact List.mem_of_getElem? hx) n
theorem noU8_T (o : Option Addr) (n c : Nat) (x : Int) (y : Bool) (z : Int) (t : Bool) : NoU8 #[.slice o n c, .int .i64 x, .bool y, .int .i64 z, .bool t] := noU8_of (by
  intro u hu
  simp only [List.mem_cons, List.not_mem_nil, or_false] at hu
  rcases hu with rfl | rfl | rfl | rfl | rfl <;> simp)
/-- a disk of the reference's is not told by another block -/
theorem IsT.shun {w w' : World} {v : Value} {d : Dk} {r : Nat} {cs : Array Value} {T : TypeId} {fr : Nat × Nat} (h : IsT w v d) (hr : w.heap[r]? = some (.cells cs T fr)) (hT : T ≠ 65) (hcs : NoU8 cs) (hk : Kp [r] w.heap.size w w') : IsT w' v d := by
  obtain ⟨fv, left, rfl, ⟨hs, h1, ⟨h2, h3⟩, h4⟩, h5⟩ := h
  refine ⟨fv, left, rfl, ⟨hs, h1, ⟨h2, ?_⟩, fun x hx => (h4 x hx).shun hr hcs hk⟩, h5⟩
  rcases h3 with h3 | ⟨g, cap, cur, hv, hg, hb, h6⟩
  · exact .inl h3
  · refine .inr ⟨g, cap, cur, hv, hg, (hk.block g (Array.getElem?_eq_some_iff.1 hb).1 (fun e => ?_)).trans hb, h6⟩
    have e' : g = r := by simpa using e
    rw [e', hr] at hb
    injection hb with hb
    injection hb with _ hb _
    exact hT hb
/-- a disk's box alone -/
structure Box1 (w w3 : World) (cs : Array Value) : Prop where
  kp : Kp [] w.heap.size w w3
  size : w.heap.size + 1 ≤ w3.heap.size
  box : w3.heap[w.heap.size]? = some (.cells cs 31 (0, 0))
theorem Box1.new (w : World) (cs : Array Value) : Box1 w (w.alloc (.cells cs 31)) cs := ⟨kp1 _ _, by simp, World.alloc_heap_new w _⟩
theorem Box1.next {w w3 w4 : World} {cs : Array Value} (h : Box1 w w3 cs) (k : Kp [] w3.heap.size w3 w4) : Box1 w w4 cs :=
  ⟨h.kp.trans (k.mono (by simp) (by have := h.size; omega)), Nat.le_trans h.size k.size, (k.block _ (by have := h.size; omega) (by simp)).trans h.box⟩
set_option maxHeartbeats 1600000 in
set_option maxRecDepth 100000 in
/-- the reference's Read -/
theorem rRead (d : Dk) (v : Value) (s : List UInt8) (w : World) (h : IsT w v d) :
    Calls Tryz.prog 30 #[v, .string ⟨s.toArray⟩] w fun e w' => ∃ vb, e = .returned (.tuple #[vb, .bool (d.there s)]) ∧ BytesV w' (fun k => k < w.heap.size) vb (d.old s).b ∧ Kp [] w.heap.size w w' := by
  have HH := Lib.hid h
  obtain ⟨fv, left, rfl, hf, -, -, -, hok⟩ := h
  obtain ⟨ao, cap, rfl, -, -⟩ := hf.shape
  obtain ⟨m, hm⟩ : ∃ m, m = d.files.length := ⟨_, rfl⟩
  have HFW : Hid (FilesR w 0 (.slice ao m cap) d.files) := by rw [hm]; exact hf
  rw [← hm] at HH ⊢
  have HM := Lib.hid hm
  clear hf hok hm
  go_enter Tryz.func30, Tryz.ntmps30
  go_wp2_with fail
  have B2 := Lib.hid (Box1.new w #[.slice ao m cap, .int .i64 (d.room : Int), .bool d.fuse.isSome, .int .i64 left, .bool d.dead])
  obtain ⟨W2, hW2⟩ : ∃ W2, W2 = w.alloc (.cells #[.slice ao m cap, .int .i64 (d.room : Int), .bool d.fuse.isSome, .int .i64 left, .bool d.dead] 31) := ⟨_, rfl⟩
  rw [← hW2] at B2 ⊢
  clear hW2
  refine (rfind d _ s W2 (HH.out.kp B2.out.kp)).mono ?_
  rintro e w3 ⟨rfl, k3⟩
  have B3 := Lib.hid (B2.out.next k3)
  clear k3 B2
  rcases findI_look (d := d) (s := s) with ⟨hlk, hfi⟩ | ⟨j, hj, hfi, hlk⟩
  · rw [hfi]
    have hth : Hid (d.there s = false) := by show _ = _; unfold Dk.there; rw [hlk]; rfl
    have hold : Hid (d.old s = ⟨s, [], 0⟩) := by show _ = _; unfold Dk.old; rw [hlk]; rfl
    clear hlk hfi
    go_wp2_with fail
    go_ret2
    rw [hth.out, hold.out]
    exact ⟨_, rfl, BytesV.nil _ _, B3.out.kp⟩
  · rw [hfi]
    have hth : Hid (d.there s = true) := by show _ = _; unfold Dk.there; rw [hlk]; rfl
    have hold : Hid (d.old s = d.files[j]) := by show _ = _; unfold Dk.old; rw [hlk]; rfl
    have hj0 : decide ((j : Int) < 0) = false := decide_eq_false (by omega)
    obtain ⟨e0, -, -, -, -⟩ := boxT B3.out.box
    obtain ⟨g, vb, hg0, -, hg, -, c1, -, hvb⟩ := HFW.out.at j hj
    obtain ⟨bb, capb, rfl, -, -, -⟩ := id hvb
    subst hg0
    have d1 := (B3.out.kp.cell (p := ⟨g, j * 3 + 1, none⟩) hg (by simp)).trans c1
    have HVB := Lib.hid (hvb.low.kp B3.out.kp (by simp))
    have hjm : (j : Int) < (m : Int) := by have := HM.out; omega
    have hj2 : (0 : Int) ≤ (j : Int) := by omega
    clear c1 hvb hlk hfi
    go_wp2_with fail
    go_ret2
    rw [hth.out, hold.out]
    exact ⟨_, rfl, HVB.out, B3.out.kp⟩
set_option maxHeartbeats 1600000 in
set_option maxRecDepth 100000 in
/-- the reference's gone -/
theorem r14gone (d : Dk) (v : Value) (s : List UInt8) (w : World) (h : IsT w v d) :
    Calls Tryz.prog 46 #[v, .string ⟨s.toArray⟩] w fun e w' => ∃ v', e = .returned (.tuple #[v', .bool (d.goneD s).2]) ∧ IsT w' v' (d.goneD s).1 ∧ Kp [] w.heap.size w w' := by
  have HH := Lib.hid h
  obtain ⟨ao, m, cap, left, rfl, -⟩ := h.form
  clear h
  go_enter Tryz.func46, Tryz.ntmps46
  go_wp2_with fail
  have B2 := Lib.hid (Boxes.new w (.slice ao m cap) (.int .i64 (d.room : Int)) (.bool d.fuse.isSome) (.int .i64 left) (.bool d.dead))
  obtain ⟨W2, hW2⟩ : ∃ W2, W2 = (w.alloc (.cells #[.slice ao m cap, .int .i64 (d.room : Int), .bool d.fuse.isSome, .int .i64 left, .bool d.dead] 31)).alloc (.cells #[.slice none 0 0, .int .i64 0, .bool false, .int .i64 0, .bool false] 31) := ⟨_, rfl⟩
  rw [← hW2] at B2 ⊢
  clear hW2
  refine (rRead d _ s W2 (HH.out.kp B2.out.kp)).mono ?_
  rintro e w3 ⟨vb, rfl, -, k3⟩
  have B3 := Lib.hid (B2.out.next k3)
  clear k3 B2
  cases hth : d.there s with
  | false =>
    have HDR : Hid (d.goneD s = (d, true)) := by show _ = _; unfold Dk.goneD; rw [hth]; rfl
    go_wp2_with (first | (refine wpList_ldT rfl _ rfl _ _ rfl B3.out.box rfl ?_) | (refine wpList_stT rfl _ _ rfl _ _ _ _ _ _ _ rfl rfl B3.out.ans rfl ⟨rfl, rfl, rfl, rfl, rfl⟩ ?_; intro w4 hg4 k4 z4))
    have K4 := B3.out.kp.trans (k4.shed (B' := w.heap.size) (by simp) (by have := B3.out.size; omega))
    (try simp only [Exit.inBlock, Exit.then])
    refine bodyPost_ret (YtdabflkejhoghaaGreat.HW.results_ct rfl _ _ (w.heap.size + 1) 31 _ (0, 0) _ rfl hg4 Tryz.underlying31 rfl infoT) rfl ?_
    rw [HDR.out]
    exact ⟨_, rfl, HH.out.kp K4, K4⟩
  | true =>
    have HDR : Hid (d.goneD s = d.drop s) := by show _ = _; unfold Dk.goneD; rw [hth]; rfl
    go_wp2_with (refine wpList_ldT rfl _ rfl _ _ rfl B3.out.box rfl ?_)
    refine (rDrop d _ s w3 (HH.out.kp B3.out.kp)).mono ?_
    rintro e w4 ⟨v4, rfl, h4, k4⟩
    obtain ⟨ao4, n4, cap4, left4, rfl, -⟩ := h4.form
    obtain ⟨d4, hd4⟩ : ∃ d4, d4 = (d.drop s).1 := ⟨_, rfl⟩
    rw [← hd4] at h4 ⊢
    have HT4 := Lib.hid h4
    have HD4 := Lib.hid hd4
    have B4 := Lib.hid (B3.out.next k4)
    clear h4 hd4 k4 B3
    go_wp2_with (refine wpList_stT rfl _ _ rfl _ _ _ _ _ _ _ rfl rfl (B4.out.next (kp1 _ _)).ans rfl ⟨rfl, rfl, rfl, rfl, rfl⟩ ?_; intro w5 hg5 k5 z5)
    have HT5 := (HT4.out.kp (kp1 w4 (.cells #[.slice ao4 n4 cap4, .int .i64 (d4.room : Int), .bool d4.fuse.isSome, .int .i64 left4, .bool d4.dead] 31))).shun (B4.out.next (kp1 _ _)).ans (by decide) (noU8_T _ _ _ _ _ _ _) k5
    have K5 := (B4.out.next (kp1 w4 (.cells #[.slice ao4 n4 cap4, .int .i64 (d4.room : Int), .bool d4.fuse.isSome, .int .i64 left4, .bool d4.dead] 31))).kp.trans (k5.shed (B' := w.heap.size) (by simp) (by have := B4.out.size; simp; omega))
    (try simp only [Exit.inBlock, Exit.then])
    refine bodyPost_ret (YtdabflkejhoghaaGreat.HW.results_ct rfl _ _ (w.heap.size + 1) 31 _ (0, 0) _ rfl hg5 Tryz.underlying31 rfl infoT) rfl ?_
    rw [HDR.out, ← HD4.out]
    exact ⟨_, rfl, HT5, K5⟩
set_option maxHeartbeats 4000000 in
set_option maxRecDepth 100000 in
/-- the reference's laid -/
theorem r14laid {A : Nat → Prop} (d : Dk) (v : Value) (b s : List UInt8) (vb : Value) (w : World) (h : IsT w v d) (hb : BytesV w A vb b) (hs : s.length ≤ maxLen) (hbl : b.length ≤ 140737488355328) :
    Calls Tryz.prog 47 #[v, vb, .string ⟨s.toArray⟩] w fun e w' => ∃ v', e = .returned (.tuple #[v', .bool (d.laidD b s).2]) ∧ IsT w' v' (d.laidD b s).1 ∧ Kp [] w.heap.size w w' := by
  have HH := Lib.hid h
  obtain ⟨ao, m, cap, left, rfl, -⟩ := h.form
  have HB := Lib.hid hb.low
  obtain ⟨bo, bc, rfl, -, -, -⟩ := id hb
  obtain ⟨bl, hbe⟩ : ∃ bl, bl = b.length := ⟨_, rfl⟩
  rw [← hbe] at HB hbl ⊢
  have HBE := Lib.hid hbe
  clear h hb hbe
  go_enter Tryz.func47, Tryz.ntmps47
  go_wp2_with fail
  have B2 := Lib.hid (Boxes.new w (.slice ao m cap) (.int .i64 (d.room : Int)) (.bool d.fuse.isSome) (.int .i64 left) (.bool d.dead))
  obtain ⟨W2, hW2⟩ : ∃ W2, W2 = (w.alloc (.cells #[.slice ao m cap, .int .i64 (d.room : Int), .bool d.fuse.isSome, .int .i64 left, .bool d.dead] 31)).alloc (.cells #[.slice none 0 0, .int .i64 0, .bool false, .int .i64 0, .bool false] 31) := ⟨_, rfl⟩
  rw [← hW2] at B2 ⊢
  clear hW2
  have HB2 := Lib.hid (HB.out.kp B2.out.kp (by simp))
  refine (rAppend d _ sNext b _ W2 (HH.out.kp B2.out.kp) HB2.out (by decide) (by rw [← HBE.out]; exact hbl)).mono ?_
  rintro e w4 ⟨v4, rfl, h4, k4⟩
  obtain ⟨ao4, n4, cap4, left4, rfl, -⟩ := h4.form
  obtain ⟨d4, hd4⟩ : ∃ d4, d4 = (d.append sNext b).1 := ⟨_, rfl⟩
  rw [← hd4] at h4 ⊢
  have HT4 := Lib.hid h4
  have HD4 := Lib.hid hd4
  have B4 := Lib.hid (B2.out.next k4)
  clear h4 hd4 k4 B2 HB2
  obtain ⟨q4, hq4⟩ : ∃ q4, q4 = (d.append sNext b).2 := ⟨_, rfl⟩
  rw [← hq4]
  have HQ4 := Lib.hid hq4
  clear hq4
  cases q4 with
  | false =>
    have HDR : Hid (d.laidD b s = (d4, false)) := by
      show _ = _; unfold Dk.laidD; rw [andD_false (r := d.append sNext b) HQ4.out.symm, andD_false (r := ((d.append sNext b).1, false)) rfl, HD4.out]
    go_wp2_with (refine wpList_stT rfl _ _ rfl _ _ _ _ _ _ _ rfl rfl (B4.out.next (kp1 _ _)).ans rfl ⟨rfl, rfl, rfl, rfl, rfl⟩ ?_; intro w5 hg5 k5 z5)
    have HT5 := (HT4.out.kp (kp1 w4 (.cells #[.slice ao4 n4 cap4, .int .i64 (d4.room : Int), .bool d4.fuse.isSome, .int .i64 left4, .bool d4.dead] 31))).shun (B4.out.next (kp1 _ _)).ans (by decide) (noU8_T _ _ _ _ _ _ _) k5
    have K5 := (B4.out.next (kp1 w4 (.cells #[.slice ao4 n4 cap4, .int .i64 (d4.room : Int), .bool d4.fuse.isSome, .int .i64 left4, .bool d4.dead] 31))).kp.trans (k5.shed (B' := w.heap.size) (by simp) (by have := B4.out.size; simp; omega))
    (try simp only [Exit.inBlock, Exit.then])
    refine bodyPost_ret (YtdabflkejhoghaaGreat.HW.results_ct rfl _ _ (w.heap.size + 1) 31 _ (0, 0) _ rfl hg5 Tryz.underlying31 rfl infoT) rfl ?_
    rw [HDR.out]
    exact ⟨_, rfl, HT5, K5⟩
  | true =>
    go_wp2_with fail
    have B5 := Lib.hid (B4.out.next (kp1 w4 (.cells #[.slice ao4 n4 cap4, .int .i64 (d4.room : Int), .bool d4.fuse.isSome, .int .i64 left4, .bool d4.dead] 31)))
    refine (rSync d4 _ sNext _ (HT4.out.kp (kp1 w4 (.cells #[.slice ao4 n4 cap4, .int .i64 (d4.room : Int), .bool d4.fuse.isSome, .int .i64 left4, .bool d4.dead] 31)))).mono ?_
    rintro e w6 ⟨v6, rfl, h6, k6⟩
    obtain ⟨ao6, n6, cap6, left6, rfl, -⟩ := h6.form
    obtain ⟨d6, hd6⟩ : ∃ d6, d6 = (d4.sync sNext).1 := ⟨_, rfl⟩
    rw [← hd6] at h6 ⊢
    have HT6 := Lib.hid h6
    have HD6 := Lib.hid hd6
    have B6 := Lib.hid (B5.out.next k6)
    obtain ⟨q6, hq6⟩ : ∃ q6, q6 = (d4.sync sNext).2 := ⟨_, rfl⟩
    rw [← hq6]
    have HQ6 := Lib.hid hq6
    clear h6 hd6 k6 B5 hq6 HT4 B4
    cases q6 with
    | false =>
      have HDR : Hid (d.laidD b s = (d6, false)) := by
        show _ = _; unfold Dk.laidD; rw [andD_true (r := d.append sNext b) HQ4.out.symm, ← HD4.out, andD_false (r := d4.sync sNext) HQ6.out.symm, HD6.out]
      go_wp2_with (refine wpList_stT rfl _ _ rfl _ _ _ _ _ _ _ rfl rfl (B6.out.next (kp1 _ _)).ans rfl ⟨rfl, rfl, rfl, rfl, rfl⟩ ?_; intro w5 hg5 k5 z5)
      have HT5 := (HT6.out.kp (kp1 w6 (.cells #[.slice ao6 n6 cap6, .int .i64 (d6.room : Int), .bool d6.fuse.isSome, .int .i64 left6, .bool d6.dead] 31))).shun (B6.out.next (kp1 _ _)).ans (by decide) (noU8_T _ _ _ _ _ _ _) k5
      have K5 := (B6.out.next (kp1 w6 (.cells #[.slice ao6 n6 cap6, .int .i64 (d6.room : Int), .bool d6.fuse.isSome, .int .i64 left6, .bool d6.dead] 31))).kp.trans (k5.shed (B' := w.heap.size) (by simp) (by have := B6.out.size; simp; omega))
      (try simp only [Exit.inBlock, Exit.then])
      refine bodyPost_ret (YtdabflkejhoghaaGreat.HW.results_ct rfl _ _ (w.heap.size + 1) 31 _ (0, 0) _ rfl hg5 Tryz.underlying31 rfl infoT) rfl ?_
      rw [HDR.out]
      exact ⟨_, rfl, HT5, K5⟩
    | true =>
      go_wp2_with fail
      have B7 := Lib.hid (B6.out.next (kp1 w6 (.cells #[.slice ao6 n6 cap6, .int .i64 (d6.room : Int), .bool d6.fuse.isSome, .int .i64 left6, .bool d6.dead] 31)))
      refine (rRename d6 _ sNext s _ (HT6.out.kp (kp1 w6 (.cells #[.slice ao6 n6 cap6, .int .i64 (d6.room : Int), .bool d6.fuse.isSome, .int .i64 left6, .bool d6.dead] 31))) hs).mono ?_
      rintro e w8 ⟨v8, rfl, h8, k8⟩
      obtain ⟨ao8, n8, cap8, left8, rfl, -⟩ := h8.form
      obtain ⟨d8, hd8⟩ : ∃ d8, d8 = (d6.rename sNext s).1 := ⟨_, rfl⟩
      rw [← hd8] at h8 ⊢
      have HT8 := Lib.hid h8
      have HDR : Hid (d.laidD b s = (d8, (d6.rename sNext s).2)) := by
        show _ = _; unfold Dk.laidD; rw [andD_true (r := d.append sNext b) HQ4.out.symm, ← HD4.out, andD_true (r := d4.sync sNext) HQ6.out.symm, ← HD6.out, hd8]
      have B8 := Lib.hid (B7.out.next k8)
      clear h8 hd8 k8 B7
      go_wp2_with (refine wpList_stT rfl _ _ rfl _ _ _ _ _ _ _ rfl rfl (B8.out.next (kp1 _ _)).ans rfl ⟨rfl, rfl, rfl, rfl, rfl⟩ ?_; intro w5 hg5 k5 z5)
      have HT5 := (HT8.out.kp (kp1 w8 (.cells #[.slice ao8 n8 cap8, .int .i64 (d8.room : Int), .bool d8.fuse.isSome, .int .i64 left8, .bool d8.dead] 31))).shun (B8.out.next (kp1 _ _)).ans (by decide) (noU8_T _ _ _ _ _ _ _) k5
      have K5 := (B8.out.next (kp1 w8 (.cells #[.slice ao8 n8 cap8, .int .i64 (d8.room : Int), .bool d8.fuse.isSome, .int .i64 left8, .bool d8.dead] 31))).kp.trans (k5.shed (B' := w.heap.size) (by simp) (by have := B8.out.size; simp; omega))
      (try simp only [Exit.inBlock, Exit.then])
      refine bodyPost_ret (YtdabflkejhoghaaGreat.HW.results_ct rfl _ _ (w.heap.size + 1) 31 _ (0, 0) _ rfl hg5 Tryz.underlying31 rfl infoT) rfl ?_
      rw [HDR.out]
      exact ⟨_, rfl, HT5, K5⟩
end Go.Proofs.YtdabflkejhoghaaGreat.Hand
