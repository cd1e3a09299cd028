/- Open, Append; the chapter's example. -/
import Derived.Below
import Derived.Deep.Draws
import Derived.Deep.AppendLies
import Derived.Maps.AppendAt
import Derived.OwnWalk
import Derived.Laws.BytesArg
import Derived.Laws.MakeOwn
import Derived.Laws.OwnMore
import Derived.Deep.OwnRows
import Derived.Tactics
import Derived.Lib.ConvBytes
import Derived.Laws.Slices
import Derived.WalkKit
import Derived.KernelRfl
import Derived.RowKit3
import Derived.Deep.LoopGhost
import Derived.Deep.QuietTactic
import Derived.BigQuiet
import Derived.WideLaws
import Derived.Deep.DeepCutAuto
import Derived.Deep.CutBlock
import Derived.Deep.RegionHeld3
import Derived.Laws.Rows
import Derived.Lib.AppendStr
import Derived.ArgAppend
import Derived.Laws.IdiomCopy
import Derived.OrdersHeld
import Derived.Laws.BitsLemmas
import Derived.RowKit
import Derived.Outline
import Derived.Maps.Own
import Derived.Maps.OwnOps
import Derived.Maps.OwnSet
import Derived.Maps.Views
import Derived.Maps.RangeWalk
import Derived.Maps.Ext
import Derived.RangeFuncOwn
import Derived.OneCell
import Derived.Deep.DeepMust
import Derived.Lib.Hide
import Derived.StillTailTactics
import Derived.Laws.AppendOwnNone
import Derived.WalkMore
import Derived.Lib.SlBytesConst
import Derived.WalkLawsBesides
import Derived.Laws.BitsAllLaws
import Derived.Test.YtdabflkejhoghaaGreatHQd
import Derived.Test.YtdabflkejhoghaaGreatHQe
import Derived.Test.YtdabflkejhoghaaGreatHQc
import Derived.Test.YtdabflkejhoghaaGreatHQa
namespace Go.Proofs.YtdabflkejhoghaaGreat.Hand
open Go Go.RowKit Go.Maps Go.WideMaps
set_option linter.unusedVariables false
set_option linter.unusedSimpArgs false
/-- a log: its block, its disk's block -/
def LogAt (w : World) (lb p seq : Nat) (broken : Bool) : Prop := w.heap[lb]? = some (.cells #[.pointer (some ⟨p, 0, none⟩), .int .u64 (seq : Int), .bool broken] 72 (0, 0))
/-- what an opening answers, where a log comes of it -/
def OpenOk (w : World) (A : Nat → Prop) (p mb : Nat) (o : Opened) (e : Ending) (w' : World) : Prop := ∃ (lb : Nat) (vx vl : Value), e = .returned (.tuple #[.pointer (some ⟨lb, 0, none⟩), vx, vl, .int .u16 0]) ∧ LogAt w' lb p o.seq false ∧ IsDisk w' (fun k => A k ∧ k ≠ lb) p mb o.d ∧
  BytesV w' (fun k => w.heap.size ≤ k ∧ k ≠ lb) vx o.snap ∧ RowsR w' w.heap.size vl o.rows ∧ w.heap.size ≤ lb ∧ Kp [p, mb] w.heap.size w w'
def OpenNo (w : World) (A : Nat → Prop) (p mb : Nat) (o : Opened) (e : Ending) (w' : World) : Prop := e = .returned (.tuple #[.pointer none, .slice none 0 0, .slice none 0 0, .int .u16 (o.err : Int)]) ∧ IsDisk w' A p mb o.d ∧ Kp [p, mb] w.heap.size w w'
theorem open_end {w W : World} {A : Nat → Prop} {p mb : Nat} {d : Dk} {x : List UInt8} {rows : List (List UInt8)} {vx vl : Value} (hk : Kp [p, mb] w.heap.size w W) (hD : IsDisk W A p mb d) (hX : BytesV W (fun k => w.heap.size ≤ k) vx x) (hR : RowsR W w.heap.size vl rows) (q : Nat) :
    OpenOk w A p mb ⟨d, 0, x, rows, q⟩ (.returned (.tuple #[.pointer (some ⟨W.heap.size, 0, none⟩), vx, vl, .int .u16 0])) (W.alloc (.cells #[.pointer (some ⟨p, 0, none⟩), .int .u64 (q : Int), .bool false] 72)) := by
  have ka : Kp [] W.heap.size W (W.alloc (.cells #[.pointer (some ⟨p, 0, none⟩), .int .u64 (q : Int), .bool false] 72)) := (Kp.refl _ _ _).alloc (Nat.le_refl _) _
  have hlt := hD.lt
  have hap := hD.apart
  refine ⟨W.heap.size, vx, vl, rfl, World.alloc_heap_new W _, ?_, ?_, hR.kpL ka (by simp), hk.size, hk.trans (ka.mono (by simp) hk.size)⟩
  · exact hD.mono ka.size (ka.block _ hlt.1 (by simp)) (ka.block _ hlt.2 (by simp)) (fun k ha hl => ⟨⟨ha, by omega⟩, ka.block k hl (by simp)⟩) ⟨fun h => hap.2.1 h.1, fun h => hap.2.2 h.1⟩
  · exact hX.mono ka.size (fun k ha hl => ⟨⟨ha, by omega⟩, ka.block k hl (by simp)⟩)
theorem wOpen_nil (w : World) : Calls Tryz.prog 15 #[.pointer none] w fun e w' => e = .returned (.tuple #[.pointer none, .slice none 0 0, .slice none 0 0, .int .u16 1]) ∧ Kp [] w.heap.size w w' := by
  go_enter Tryz.func15, Tryz.ntmps15
  go_wp2
  refine bodyPost_ret (v := .tuple #[.pointer none, .slice none 0 0, .slice none 0 0, .int .u16 1]) (by simp [results, Tryz.results15, go_sem]) rfl ?_
  exact ⟨rfl, (Kp.refl _ _ _).alloc (Nat.le_refl _) _⟩
set_option maxRecDepth 100000 in
theorem wOpen_dead {A : Nat → Prop} {p mb : Nat} {d : Dk} (w : World) (h : IsDisk w A p mb d) (hd : d.dead = true) :
    Calls Tryz.prog 15 #[.pointer (some ⟨p, 0, none⟩)] w (OpenNo w A p mb ⟨d, 22, [], [], 0⟩) := by
  have HD := Lib.hid h
  have h1 := h.kp_ge (w' := w.alloc (.cells #[.pointer (some ⟨p, 0, none⟩)] 27)) ((Kp.refl _ _ _).alloc (Nat.le_refl _) _)
  have HD1 := Lib.hid h1
  unfold OpenNo
  clear h h1
  go_enter Tryz.func15, Tryz.ntmps15
  go_wp2_with fail
  refine (dDead A p mb d _ HD1.out).mono ?_
  rintro e w1 ⟨rfl, rfl⟩
  rw [hd]
  go_wp2_with fail
  refine bodyPost_ret (v := .tuple #[.pointer none, .slice none 0 0, .slice none 0 0, .int .u16 22]) (by simp [results, Tryz.results15, go_sem]) rfl ?_
  exact ⟨rfl, HD1.out, (Kp.refl _ _ _).alloc (Nat.le_refl _) _⟩
set_option maxRecDepth 100000 in
theorem wOpen_sum {A : Nat → Prop} {p mb : Nat} {d : Dk} (w : World) (h : IsDisk w A p mb d) (hd : d.dead = false) (hs : d.stateD = none) :
    Calls Tryz.prog 15 #[.pointer (some ⟨p, 0, none⟩)] w (OpenNo w A p mb ⟨d, 23, [], [], 0⟩) := by
  obtain ⟨W1, hW1⟩ : ∃ W1, W1 = w.alloc (.cells #[.pointer (some ⟨p, 0, none⟩)] 27) := ⟨_, rfl⟩
  have hk1 : Kp [] w.heap.size w W1 := by rw [hW1]; exact (Kp.refl _ _ _).alloc (Nat.le_refl _) _
  have c1 : W1.cell? ⟨w.heap.size, 0, none⟩ = some (.pointer (some ⟨p, 0, none⟩)) := by rw [hW1]; exact (cell1 (World.alloc_heap_new w _)).1
  have HD1 := Lib.hid (h.kp_ge hk1)
  have HK1 := Lib.hid hk1
  have HS := Lib.hid hs
  unfold OpenNo
  have HW1 := Lib.hid hW1
  clear h hk1 hs hW1
  go_enter Tryz.func15, Tryz.ntmps15
  go_wp2_with fail
  rw [← HW1.out]
  refine (dDead A p mb d _ HD1.out).mono ?_
  rintro e w1 ⟨rfl, rfl⟩
  rw [hd]
  go_wp2_with fail
  refine (wstate_no W1 HD1.out HS.out).mono ?_
  rintro e w2 ⟨v, s, rfl, k2⟩
  have HD2 := Lib.hid (HD1.out.kp_ge k2)
  have HK2 := Lib.hid (HK1.out.trans (k2.mono (by simp) HK1.out.size))
  obtain ⟨v1, hv1⟩ : ∃ v1, v1 = v := ⟨_, rfl⟩
  clear k2 c1 hv1
  go_wp2_with fail
  refine bodyPost_ret (v := .tuple #[.pointer none, .slice none 0 0, .slice none 0 0, .int .u16 23]) (by simp [results, Tryz.results15, go_sem]) rfl ?_
  exact ⟨rfl, HD2.out, HK2.out.mono (by simp) (Nat.le_refl _)⟩
end Go.Proofs.YtdabflkejhoghaaGreat.Hand
namespace Go.Proofs.YtdabflkejhoghaaGreat.Hand
open Go Go.RowKit Go.Maps Go.WideMaps
set_option linter.unusedVariables false
set_option linter.unusedSimpArgs false
set_option maxHeartbeats 2000000 in
set_option maxRecDepth 100000 in
theorem wOpen_all {A : Nat → Prop} {p mb : Nat} {d : Dk} (w : World) (h : IsDisk w A p mb d) (hA : ∀ k, w.heap.size ≤ k → A k) (hd : d.dead = false) {x : List UInt8} {seq : Nat} (hs : d.stateD = some (x, seq))
    (ho : (allB (behindB (d.old sLog).b seq) (wrapN (seq + 1))).2 = (behindB (d.old sLog).b seq).length) :
    Calls Tryz.prog 15 #[.pointer (some ⟨p, 0, none⟩)] w (OpenOk w A p mb ⟨d, 0, x, (allB (behindB (d.old sLog).b seq) (wrapN (seq + 1))).1, wrapN (seq + (allB (behindB (d.old sLog).b seq) (wrapN (seq + 1))).1.length)⟩) := by
  obtain ⟨W1, hW1⟩ : ∃ W1, W1 = w.alloc (.cells #[.pointer (some ⟨p, 0, none⟩)] 27) := ⟨_, rfl⟩
  have hk1 : Kp [] w.heap.size w W1 := by rw [hW1]; exact (Kp.refl _ _ _).alloc (Nat.le_refl _) _
  have hb1 : W1.heap[w.heap.size]? = some (.cells #[.pointer (some ⟨p, 0, none⟩)] 27 (0, 0)) := by rw [hW1]; exact World.alloc_heap_new w _
  have hz1 : w.heap.size < W1.heap.size := by rw [hW1]; simp
  have c1 : W1.cell? ⟨w.heap.size, 0, none⟩ = some (.pointer (some ⟨p, 0, none⟩)) := (cell1 hb1).1
  have HB1 := Lib.hid hb1
  have HD1 := Lib.hid (h.kp_ge hk1)
  have HK1 := Lib.hid hk1
  have hlt := h.lt
  have HLT := Lib.hid hlt
  have HOK := Lib.hid h.ok
  have HS := Lib.hid hs
  have HW1 := Lib.hid hW1
  have hlen := old_len h.ok sLog
  have HL := Lib.hid hlen
  obtain ⟨b, hbb⟩ : ∃ b, b = (d.old sLog).b := ⟨_, rfl⟩
  obtain ⟨rest, hrest⟩ : ∃ rest, rest = behindB b seq := ⟨_, rfl⟩
  obtain ⟨j, hj, hsuf⟩ := behindB_suffix b.length b seq (Nat.le_refl _)
  have hrl : rest.length ≤ b.length := by rw [hrest, hsuf]; simp
  rw [← hbb] at hlen
  rw [← hbb, ← hrest] at ho
  have hb63 : rest.length ≤ 1048576 := by omega
  obtain ⟨m, hm⟩ : ∃ m, m = rest.length := ⟨_, rfl⟩
  have HBB := Lib.hid hbb
  have HREST := Lib.hid hrest
  have HM := Lib.hid hm
  obtain ⟨ra, hra⟩ : ∃ ra, ra = allB rest (wrapN (seq + 1)) := ⟨_, rfl⟩
  have HRA := Lib.hid hra
  rw [← hra, ← hm] at ho
  obtain ⟨rows, n⟩ := ra
  obtain ⟨k, hk⟩ : ∃ k, k = rows.length := ⟨_, rfl⟩
  have HK := Lib.hid hk
  have hkm : k ≤ 1048576 := by
    have h1 := allB_le rest.length rest (wrapN (seq + 1)) (Nat.le_refl _)
    rw [← hra] at h1
    have h2 : n ≤ rest.length ∧ n = 16 * rows.length + total rows := h1
    omega
  have hnm : n ≤ m := by
    have h1 := allB_le rest.length rest (wrapN (seq + 1)) (Nat.le_refl _)
    rw [← hra] at h1
    rw [hm]; exact h1.1
  have HO := Lib.hid ho
  have hsl := (wstate_ok W1 HD1.out hs).1
  have hm63 : m ≤ 1048576 := by omega
  have es : IntKind.u64.wrap ((seq : Int) + 1) = ((wrapN (seq + 1) : Nat) : Int) := by rw [IntKind.wrap_u64]; unfold wrapN; omega
  have es2 : ((seq : Int) + 1) % 18446744073709551616 = ((wrapN (seq + 1) : Nat) : Int) := by unfold wrapN; omega
  have ek : IntKind.u64.wrap ((seq : Int) + (k : Int)) = ((wrapN (seq + k) : Nat) : Int) := by rw [IntKind.wrap_u64]; unfold wrapN; omega
  have ek2 : ((seq : Int) + (k : Int)) % 18446744073709551616 = ((wrapN (seq + k) : Nat) : Int) := by unfold wrapN; omega
  have EK := Lib.hid ek
  have EK2 := Lib.hid ek2
  have hss : wrapN (seq + 1) < 18446744073709551616 := by unfold wrapN; omega
  have ho' : n = m := ho
  have hdn : decide (n < m) = false := decide_eq_false (by omega)
  have hdn' : decide ((n : Int) < (m : Int)) = false := decide_eq_false (by omega)
  clear ho'
  clear h hk1 hs hW1 hbb hrest hj hsuf hm hra hk ho ek ek2 hb1 hlen hrl hb63
  go_enter Tryz.func15, Tryz.ntmps15
  go_wp2_with fail
  rw [← HW1.out]
  refine (dDead A p mb d _ HD1.out).mono ?_
  rintro e w1 ⟨rfl, rfl⟩
  rw [hd]
  go_wp2_with fail
  refine ((wstate_ok W1 HD1.out HS.out).2).mono ?_
  rintro e w2 ⟨vx, rfl, hx2, k2⟩
  obtain ⟨xo, xc, rfl, hxc, -, -⟩ := id hx2
  obtain ⟨xn, hxn⟩ : ∃ xn, xn = x.length := ⟨_, rfl⟩
  rw [← hxn] at hx2 ⊢
  have HX2 := Lib.hid hx2
  have HD2 := Lib.hid (HD1.out.kp_ge k2)
  have HK2 := Lib.hid (HK1.out.trans (k2.mono (by simp) HK1.out.size))
  have c2 := (k2.cell (p := ⟨w.heap.size, 0, none⟩) hz1 (by simp)).trans c1
  have hz2 : w.heap.size < w2.heap.size := Nat.lt_of_lt_of_le hz1 k2.size
  clear k2 c1 hx2 hxn hxc
  go_wp2_with fail
  refine (dRead A p mb d sLog w2 HD2.out (by decide)).mono ?_
  rintro e w3 ⟨v3, rfl, ho3, k3⟩
  rw [← HBB.out] at ho3
  have HO3 := Lib.hid (own_bytes ho3)
  obtain ⟨o3, n3, p3, rfl, hn3⟩ := own_shape ho3
  have HX3 := Lib.hid (HX2.out.kp k3 (by simp))
  have HD3 := Lib.hid (HD2.out.kp_ge k3)
  have HK3 := Lib.hid (HK2.out.trans (k3.mono (by simp) HK2.out.size))
  have c3 := (k3.cell (p := ⟨w.heap.size, 0, none⟩) hz2 (by simp)).trans c2
  have hz3 : w.heap.size < w3.heap.size := Nat.lt_of_lt_of_le hz2 k3.size
  clear k3 c2 ho3
  go_wp2_with fail
  refine (wbehind _ b seq w3 HO3.out (by have := HL.out; rw [HBB.out]; omega) hsl).mono ?_
  rintro e w4 ⟨v4, rfl, h4, k4⟩
  rw [← HREST.out] at h4
  obtain ⟨o4, p4, rfl, hp4, hp4', -⟩ := id h4
  rw [← HM.out] at h4 hp4 ⊢
  have HR4 := Lib.hid h4
  have HX4 := Lib.hid (HX3.out.kp k4 (by simp))
  have HD4 := Lib.hid (HD3.out.kp_ge k4)
  have HK4 := Lib.hid (HK3.out.trans (k4.mono (by simp) HK3.out.size))
  have c4 := (k4.cell (p := ⟨w.heap.size, 0, none⟩) hz3 (by simp)).trans c3
  have hz4 : w.heap.size < w4.heap.size := Nat.lt_of_lt_of_le hz3 k4.size
  clear k4 c3 h4
  go_wp2_with fail
  refine (cAll _ rest (wrapN (seq + 1)) w4 HR4.out (by rw [← HM.out]; omega) hss).mono ?_
  rintro e w5 ⟨v5, rfl, h5, k5⟩
  rw [← HRA.out] at h5 ⊢
  obtain ⟨o5, p5, rfl, hp5, hp5'⟩ := h5.shape
  have HV5 := Lib.hid h5
  have h5l : (rows, n).1.length = k := HK.out.symm
  rw [h5l] at HV5 hp5 ⊢
  have HX5 := Lib.hid (HX4.out.kp k5 (by simp))
  have HR5 := Lib.hid (HR4.out.kp k5 (by simp))
  have HD5 := Lib.hid (HD4.out.kp_ge k5)
  have HK5 := Lib.hid (HK4.out.trans (k5.mono (by simp) HK4.out.size))
  have c5 := (k5.cell (p := ⟨w.heap.size, 0, none⟩) hz4 (by simp)).trans c4
  have hz5 : w.heap.size < w5.heap.size := Nat.lt_of_lt_of_le hz4 k5.size
  have hz45 := k5.size
  clear k5 c4 h5 h5l
  go_wp2_with fail
  refine bodyPost_ret (v := .tuple #[.pointer (some ⟨w5.heap.size, 0, none⟩), .slice xo xn xc, .slice o5 k p5, .int .u16 0]) (by simp [results, Tryz.results15, go_sem]) rfl ?_
  rw [EK.out]
  have hh := open_end (HK5.out.mono (L' := [p, mb]) (by simp) (Nat.le_refl _)) HD5.out (HX5.out.mono (A' := fun k => w.heap.size ≤ k) (Nat.le_refl _) (fun k h _ => ⟨by omega, rfl⟩)) (HV5.out.base (by omega)) (wrapN (seq + k))
  rw [← HBB.out, ← HREST.out, ← HRA.out]
  rw [HK.out] at hh ⊢
  exact hh
end Go.Proofs.YtdabflkejhoghaaGreat.Hand
namespace Go.Proofs.YtdabflkejhoghaaGreat.Hand
open Go Go.RowKit Go.Maps Go.WideMaps
set_option linter.unusedVariables false
set_option linter.unusedSimpArgs false
/-- what an opening answers where a tail is cut: r is what became of the disk -/
def CutP (w : World) (A : Nat → Prop) (p mb : Nat) (r : Dk × Bool) (x : List UInt8) (rows : List (List UInt8)) (q : Nat) (e : Ending) (w' : World) : Prop := if r.2 = true then OpenOk w A p mb ⟨r.1, 0, x, rows, q⟩ e w' else OpenNo w A p mb ⟨r.1, 22, [], [], 0⟩ e w'
set_option maxHeartbeats 2000000 in
set_option maxRecDepth 100000 in
theorem wOpen_drop {A : Nat → Prop} {p mb : Nat} {d : Dk} (w : World) (h : IsDisk w A p mb d) (hA : ∀ k, w.heap.size ≤ k → A k) (hd : d.dead = false) {x : List UInt8} {seq : Nat} (hs : d.stateD = some (x, seq))
    (ho : (allB (behindB (d.old sLog).b seq) (wrapN (seq + 1))).2 < (behindB (d.old sLog).b seq).length) (hn0 : (allB (behindB (d.old sLog).b seq) (wrapN (seq + 1))).2 = 0) :
    Calls Tryz.prog 15 #[.pointer (some ⟨p, 0, none⟩)] w (CutP w A p mb (d.cutD (behindB (d.old sLog).b seq) (allB (behindB (d.old sLog).b seq) (wrapN (seq + 1))).2) x (allB (behindB (d.old sLog).b seq) (wrapN (seq + 1))).1 (wrapN (seq + (allB (behindB (d.old sLog).b seq) (wrapN (seq + 1))).1.length))) := by
  obtain ⟨W1, hW1⟩ : ∃ W1, W1 = w.alloc (.cells #[.pointer (some ⟨p, 0, none⟩)] 27) := ⟨_, rfl⟩
  have hk1 : Kp [] w.heap.size w W1 := by rw [hW1]; exact (Kp.refl _ _ _).alloc (Nat.le_refl _) _
  have hb1 : W1.heap[w.heap.size]? = some (.cells #[.pointer (some ⟨p, 0, none⟩)] 27 (0, 0)) := by rw [hW1]; exact World.alloc_heap_new w _
  have hz1 : w.heap.size < W1.heap.size := by rw [hW1]; simp
  have c1 : W1.cell? ⟨w.heap.size, 0, none⟩ = some (.pointer (some ⟨p, 0, none⟩)) := (cell1 hb1).1
  have HB1 := Lib.hid hb1
  have HD1 := Lib.hid (h.kp_ge hk1)
  have HK1 := Lib.hid hk1
  have hlt := h.lt
  have HLT := Lib.hid hlt
  have HOK := Lib.hid h.ok
  have HS := Lib.hid hs
  have HW1 := Lib.hid hW1
  have hlen := old_len h.ok sLog
  have HL := Lib.hid hlen
  obtain ⟨b, hbb⟩ : ∃ b, b = (d.old sLog).b := ⟨_, rfl⟩
  obtain ⟨rest, hrest⟩ : ∃ rest, rest = behindB b seq := ⟨_, rfl⟩
  obtain ⟨j, hj, hsuf⟩ := behindB_suffix b.length b seq (Nat.le_refl _)
  have hrl : rest.length ≤ b.length := by rw [hrest, hsuf]; simp
  rw [← hbb] at hlen
  rw [← hbb, ← hrest] at ho
  have hb63 : rest.length ≤ 1048576 := by omega
  obtain ⟨m, hm⟩ : ∃ m, m = rest.length := ⟨_, rfl⟩
  have HBB := Lib.hid hbb
  have HREST := Lib.hid hrest
  have HM := Lib.hid hm
  obtain ⟨ra, hra⟩ : ∃ ra, ra = allB rest (wrapN (seq + 1)) := ⟨_, rfl⟩
  have HRA := Lib.hid hra
  rw [← hra, ← hm] at ho
  obtain ⟨rows, n⟩ := ra
  obtain ⟨k, hk⟩ : ∃ k, k = rows.length := ⟨_, rfl⟩
  have HK := Lib.hid hk
  have hkm : k ≤ 1048576 := by
    have h1 := allB_le rest.length rest (wrapN (seq + 1)) (Nat.le_refl _)
    rw [← hra] at h1
    have h2 : n ≤ rest.length ∧ n = 16 * rows.length + total rows := h1
    omega
  have hnm : n ≤ m := by
    have h1 := allB_le rest.length rest (wrapN (seq + 1)) (Nat.le_refl _)
    rw [← hra] at h1
    rw [hm]; exact h1.1
  have HO := Lib.hid ho
  have hsl := (wstate_ok W1 HD1.out hs).1
  have hm63 : m ≤ 1048576 := by omega
  have es : IntKind.u64.wrap ((seq : Int) + 1) = ((wrapN (seq + 1) : Nat) : Int) := by rw [IntKind.wrap_u64]; unfold wrapN; omega
  have es2 : ((seq : Int) + 1) % 18446744073709551616 = ((wrapN (seq + 1) : Nat) : Int) := by unfold wrapN; omega
  have ek : IntKind.u64.wrap ((seq : Int) + (k : Int)) = ((wrapN (seq + k) : Nat) : Int) := by rw [IntKind.wrap_u64]; unfold wrapN; omega
  have ek2 : ((seq : Int) + (k : Int)) % 18446744073709551616 = ((wrapN (seq + k) : Nat) : Int) := by unfold wrapN; omega
  have EK := Lib.hid ek
  have EK2 := Lib.hid ek2
  have hss : wrapN (seq + 1) < 18446744073709551616 := by unfold wrapN; omega
  have ho' : n < m := ho
  rw [← hbb, ← hrest, ← hra] at hn0
  have hn0' : n = 0 := hn0
  subst hn0'
  have hdn : decide (0 < m) = true := decide_eq_true (by omega)
  have hdn' : decide ((0 : Int) < (m : Int)) = true := decide_eq_true (by omega)
  have hdz : decide (0 < 0) = false := decide_eq_false (by omega)
  have hdz' : decide ((0 : Int) < (0 : Int)) = false := decide_eq_false (by omega)
  have hmf : ∀ (fn : Fn) (first cap : Array Value) (w : World), (Instr.makeFunc fn first cap).run Tryz.prog w = .ok (.func fn first cap) w := fun _ _ _ _ => rfl
  have HA := Lib.hid hA
  clear ho' hn0 hA
  clear h hk1 hs hW1 hbb hrest hj hsuf hm hra hk ho ek ek2 hb1 hlen hrl hb63
  go_enter Tryz.func15, Tryz.ntmps15
  go_wp2_with fail
  rw [← HW1.out]
  refine (dDead A p mb d _ HD1.out).mono ?_
  rintro e w1 ⟨rfl, rfl⟩
  rw [hd]
  go_wp2_with fail
  refine ((wstate_ok W1 HD1.out HS.out).2).mono ?_
  rintro e w2 ⟨vx, rfl, hx2, k2⟩
  obtain ⟨xo, xc, rfl, hxc, -, -⟩ := id hx2
  obtain ⟨xn, hxn⟩ : ∃ xn, xn = x.length := ⟨_, rfl⟩
  rw [← hxn] at hx2 ⊢
  have HX2 := Lib.hid hx2
  have HD2 := Lib.hid (HD1.out.kp_ge k2)
  have HK2 := Lib.hid (HK1.out.trans (k2.mono (by simp) HK1.out.size))
  have c2 := (k2.cell (p := ⟨w.heap.size, 0, none⟩) hz1 (by simp)).trans c1
  have hz2 : w.heap.size < w2.heap.size := Nat.lt_of_lt_of_le hz1 k2.size
  clear k2 c1 hx2 hxn hxc
  go_wp2_with fail
  refine (dRead A p mb d sLog w2 HD2.out (by decide)).mono ?_
  rintro e w3 ⟨v3, rfl, ho3, k3⟩
  rw [← HBB.out] at ho3
  have HO3 := Lib.hid (own_bytes ho3)
  obtain ⟨o3, n3, p3, rfl, hn3⟩ := own_shape ho3
  have HX3 := Lib.hid (HX2.out.kp k3 (by simp))
  have HD3 := Lib.hid (HD2.out.kp_ge k3)
  have HK3 := Lib.hid (HK2.out.trans (k3.mono (by simp) HK2.out.size))
  have c3 := (k3.cell (p := ⟨w.heap.size, 0, none⟩) hz2 (by simp)).trans c2
  have hz3 : w.heap.size < w3.heap.size := Nat.lt_of_lt_of_le hz2 k3.size
  clear k3 c2 ho3
  go_wp2_with fail
  refine (wbehind _ b seq w3 HO3.out (by have := HL.out; rw [HBB.out]; omega) hsl).mono ?_
  rintro e w4 ⟨v4, rfl, h4, k4⟩
  rw [← HREST.out] at h4
  obtain ⟨o4, p4, rfl, hp4, hp4', -⟩ := id h4
  rw [← HM.out] at h4 hp4 ⊢
  have HR4 := Lib.hid h4
  have HX4 := Lib.hid (HX3.out.kp k4 (by simp))
  have HD4 := Lib.hid (HD3.out.kp_ge k4)
  have HK4 := Lib.hid (HK3.out.trans (k4.mono (by simp) HK3.out.size))
  have c4 := (k4.cell (p := ⟨w.heap.size, 0, none⟩) hz3 (by simp)).trans c3
  have hz4 : w.heap.size < w4.heap.size := Nat.lt_of_lt_of_le hz3 k4.size
  clear k4 c3 h4
  go_wp2_with fail
  refine (cAll _ rest (wrapN (seq + 1)) w4 HR4.out (by rw [← HM.out]; omega) hss).mono ?_
  rintro e w5 ⟨v5, rfl, h5, k5⟩
  rw [← HRA.out] at h5 ⊢
  obtain ⟨o5, p5, rfl, hp5, hp5'⟩ := h5.shape
  have HV5 := Lib.hid h5
  have h5l : (rows, 0).1.length = k := HK.out.symm
  rw [h5l] at HV5 hp5 ⊢
  have HX5 := Lib.hid (HX4.out.kp k5 (by simp))
  have HR5 := Lib.hid (HR4.out.kp k5 (by simp))
  have HD5 := Lib.hid (HD4.out.kp_ge k5)
  have HK5 := Lib.hid (HK4.out.trans (k5.mono (by simp) HK4.out.size))
  have c5 := (k5.cell (p := ⟨w.heap.size, 0, none⟩) hz4 (by simp)).trans c4
  have hz5 : w.heap.size < w5.heap.size := Nat.lt_of_lt_of_le hz4 k5.size
  have hz45 := k5.size
  clear k5 c4 h5 h5l
  obtain ⟨r, hr⟩ : ∃ r, r = d.cutD rest 0 := ⟨_, rfl⟩
  have HR := Lib.hid hr
  clear hr
  go_wp2_with fail
  have ST5 : StepOk w5 A p mb 34 #[.pointer (some ⟨w.heap.size, 0, none⟩)] (fun d => d.drop sLog) := fun W d hk hd => wcut1 hd ((hk.cell (p := ⟨w.heap.size, 0, none⟩) hz5 (by have := HLT.out; simp; omega)).trans c5)
  have HST5 := Lib.hid ST5
  clear ST5
  refine (wgone A p mb sNext w5 (by decide) (by have := HLT.out; exact ⟨by omega, by omega⟩)).mono ?_
  rintro e w7 ⟨caps7, rfl, hs7, k7⟩
  have k76 := k7.mono (L' := [p, mb]) (by simp) (Nat.le_refl _)
  have HS7 := Lib.hid hs7
  have HT7 := Lib.hid (HST5.out.kp k76)
  have HK7 := Lib.hid (HK5.out.trans (k7.mono (by simp) HK5.out.size))
  have HD7 := Lib.hid (HD5.out.kp_ge k7)
  have HX7 := Lib.hid (HX5.out.kp k7 (by simp))
  have HV7 := Lib.hid (HV5.out.kpL k7 (by simp))
  have c7 := (k7.cell (p := ⟨w.heap.size, 0, none⟩) hz5 (by simp)).trans c5
  have hz7 := k7.size
  clear hs7 k7 k76
  go_wp2_with fail
  obtain ⟨W8, hW8⟩ : ∃ W8, W8 = w7.alloc (.cells #[.func (.func 62) #[] caps7, .func (.func 34) #[] #[.pointer (some ⟨w.heap.size, 0, none⟩)]] 25) := ⟨_, rfl⟩
  have hc8 := cells2 w7 (.func (.func 62) #[] caps7) (.func (.func 34) #[] #[.pointer (some ⟨w.heap.size, 0, none⟩)]) 25
  have hk8 : Kp [] w7.heap.size w7 W8 := by rw [hW8]; exact (Kp.refl _ _ _).alloc (Nat.le_refl _) _
  have hz8 : w7.heap.size < W8.heap.size := by rw [hW8]; simp
  rw [← hW8] at hc8 ⊢
  have k86 := hk8.mono (L' := [p, mb]) (by simp) (Nat.le_refl _)
  have hst : Steps W8 A p mb w7.heap.size [⟨62, caps7, fun d => d.goneD sNext⟩, ⟨34, #[.pointer (some ⟨w.heap.size, 0, none⟩)], (fun d => d.drop sLog)⟩] := by
    intro i hi
    match i, hi with
    | 0, _ => exact ⟨hc8.1, HS7.out.kp k86, enter1⟩
    | 1, _ => exact ⟨hc8.2, HT7.out.kp k86, enter3⟩
  have h7w := HK7.out.size
  have hlt0 := HLT.out
  refine (wall [⟨62, caps7, fun d => d.goneD sNext⟩, ⟨34, #[.pointer (some ⟨w.heap.size, 0, none⟩)], (fun d => d.drop sLog)⟩] W8 (HD7.out.kp_ge hk8) hst ⟨hz8, by omega, by omega⟩ (by simp)).mono ?_
  rintro e w9 ⟨rfl, hd9, k9⟩
  have hall : allD (d, true) [⟨62, caps7, fun d => d.goneD sNext⟩, ⟨34, #[.pointer (some ⟨w.heap.size, 0, none⟩)], (fun d => d.drop sLog)⟩] = r := by
    rw [HR.out]
    show andD (andD (d, true) (fun d => d.goneD sNext)) (fun d => d.drop sLog) = d.cutD rest 0
    unfold Dk.cutD
    rw [andD_true (r := (d, true)) rfl]
    exact congrArg (andD (d.goneD sNext)) (by funext d; rw [if_neg (by omega)])
  rw [hall] at hd9 ⊢
  have KA : Kp [p, mb] w.heap.size w w9 := (HK7.out.mono (L' := [p, mb]) (by simp) (Nat.le_refl _)).trans (((hk8.mono (L' := [p, mb]) (by simp) (Nat.le_refl _)).trans (k9.mono (by simp) hk8.size)).mono (by simp) h7w)
  have c9 := (k9.cell (p := ⟨w.heap.size, 0, none⟩) (by show w.heap.size < _; omega) (by simp; omega)).trans ((hk8.cell (p := ⟨w.heap.size, 0, none⟩) (by show w.heap.size < _; omega) (by simp)).trans c7)
  have HX9 := Lib.hid ((HX7.out.kp hk8 (by simp)).kp k9 (by simp; omega))
  have HV9 := Lib.hid ((HV7.out.kpL hk8 (by simp)).kpL k9 (by simp; omega))
  have HD9 := Lib.hid hd9
  have HKA := Lib.hid KA
  obtain ⟨d9, ok9⟩ := r
  clear hd9 hst hall KA k86 k9 hk8 hW8 hc8 c7 hz8 c5
  cases ok9 with
  | true =>
    go_wp2_with fail
    refine bodyPost_ret (v := .tuple #[.pointer (some ⟨w9.heap.size, 0, none⟩), .slice xo xn xc, .slice o5 k p5, .int .u16 0]) (by simp [results, Tryz.results15, go_sem]) rfl ?_
    rw [EK.out]
    have hh := open_end HKA.out HD9.out (HX9.out.mono (A' := fun k => w.heap.size ≤ k) (Nat.le_refl _) (fun k h _ => ⟨by omega, rfl⟩)) (HV9.out.base (by omega)) (wrapN (seq + k))
    rw [HK.out] at hh ⊢
    rw [← HBB.out, ← HREST.out, ← HRA.out]
    show CutP w A p mb (d.cutD rest 0) x rows (wrapN (seq + rows.length)) _ _
    rw [← HR.out]
    exact hh
  | false =>
    go_wp2_with fail
    refine bodyPost_ret (v := .tuple #[.pointer none, .slice none 0 0, .slice none 0 0, .int .u16 22]) (by simp [results, Tryz.results15, go_sem]) rfl ?_
    rw [← HBB.out, ← HREST.out, ← HRA.out]
    show CutP w A p mb (d.cutD rest 0) x rows (wrapN (seq + rows.length)) _ _
    rw [← HR.out]
    exact ⟨rfl, HD9.out, HKA.out⟩
end Go.Proofs.YtdabflkejhoghaaGreat.Hand
namespace Go.Proofs.YtdabflkejhoghaaGreat.Hand
open Go Go.RowKit Go.Maps Go.WideMaps
set_option linter.unusedVariables false
set_option linter.unusedSimpArgs false
set_option maxHeartbeats 2000000 in
set_option maxRecDepth 100000 in
theorem wOpen_laid {A : Nat → Prop} {p mb : Nat} {d : Dk} (w : World) (h : IsDisk w A p mb d) (hA : ∀ k, w.heap.size ≤ k → A k) (hd : d.dead = false) {x : List UInt8} {seq : Nat} (hs : d.stateD = some (x, seq))
    (ho : (allB (behindB (d.old sLog).b seq) (wrapN (seq + 1))).2 < (behindB (d.old sLog).b seq).length) (hn0 : 0 < (allB (behindB (d.old sLog).b seq) (wrapN (seq + 1))).2) :
    Calls Tryz.prog 15 #[.pointer (some ⟨p, 0, none⟩)] w (CutP w A p mb (d.cutD (behindB (d.old sLog).b seq) (allB (behindB (d.old sLog).b seq) (wrapN (seq + 1))).2) x (allB (behindB (d.old sLog).b seq) (wrapN (seq + 1))).1 (wrapN (seq + (allB (behindB (d.old sLog).b seq) (wrapN (seq + 1))).1.length))) := by
  obtain ⟨W1, hW1⟩ : ∃ W1, W1 = w.alloc (.cells #[.pointer (some ⟨p, 0, none⟩)] 27) := ⟨_, rfl⟩
  have hk1 : Kp [] w.heap.size w W1 := by rw [hW1]; exact (Kp.refl _ _ _).alloc (Nat.le_refl _) _
  have hb1 : W1.heap[w.heap.size]? = some (.cells #[.pointer (some ⟨p, 0, none⟩)] 27 (0, 0)) := by rw [hW1]; exact World.alloc_heap_new w _
  have hz1 : w.heap.size < W1.heap.size := by rw [hW1]; simp
  have c1 : W1.cell? ⟨w.heap.size, 0, none⟩ = some (.pointer (some ⟨p, 0, none⟩)) := (cell1 hb1).1
  have HB1 := Lib.hid hb1
  have HD1 := Lib.hid (h.kp_ge hk1)
  have HK1 := Lib.hid hk1
  have hlt := h.lt
  have HLT := Lib.hid hlt
  have HOK := Lib.hid h.ok
  have HS := Lib.hid hs
  have HW1 := Lib.hid hW1
  have hlen := old_len h.ok sLog
  have HL := Lib.hid hlen
  obtain ⟨b, hbb⟩ : ∃ b, b = (d.old sLog).b := ⟨_, rfl⟩
  obtain ⟨rest, hrest⟩ : ∃ rest, rest = behindB b seq := ⟨_, rfl⟩
  obtain ⟨j, hj, hsuf⟩ := behindB_suffix b.length b seq (Nat.le_refl _)
  have hrl : rest.length ≤ b.length := by rw [hrest, hsuf]; simp
  rw [← hbb] at hlen
  rw [← hbb, ← hrest] at ho
  have hb63 : rest.length ≤ 1048576 := by omega
  obtain ⟨m, hm⟩ : ∃ m, m = rest.length := ⟨_, rfl⟩
  have HBB := Lib.hid hbb
  have HREST := Lib.hid hrest
  have HM := Lib.hid hm
  obtain ⟨ra, hra⟩ : ∃ ra, ra = allB rest (wrapN (seq + 1)) := ⟨_, rfl⟩
  have HRA := Lib.hid hra
  rw [← hra, ← hm] at ho
  obtain ⟨rows, n⟩ := ra
  obtain ⟨k, hk⟩ : ∃ k, k = rows.length := ⟨_, rfl⟩
  have HK := Lib.hid hk
  have hkm : k ≤ 1048576 := by
    have h1 := allB_le rest.length rest (wrapN (seq + 1)) (Nat.le_refl _)
    rw [← hra] at h1
    have h2 : n ≤ rest.length ∧ n = 16 * rows.length + total rows := h1
    omega
  have hnm : n ≤ m := by
    have h1 := allB_le rest.length rest (wrapN (seq + 1)) (Nat.le_refl _)
    rw [← hra] at h1
    rw [hm]; exact h1.1
  have HO := Lib.hid ho
  have hsl := (wstate_ok W1 HD1.out hs).1
  have hm63 : m ≤ 1048576 := by omega
  have es : IntKind.u64.wrap ((seq : Int) + 1) = ((wrapN (seq + 1) : Nat) : Int) := by rw [IntKind.wrap_u64]; unfold wrapN; omega
  have es2 : ((seq : Int) + 1) % 18446744073709551616 = ((wrapN (seq + 1) : Nat) : Int) := by unfold wrapN; omega
  have ek : IntKind.u64.wrap ((seq : Int) + (k : Int)) = ((wrapN (seq + k) : Nat) : Int) := by rw [IntKind.wrap_u64]; unfold wrapN; omega
  have ek2 : ((seq : Int) + (k : Int)) % 18446744073709551616 = ((wrapN (seq + k) : Nat) : Int) := by unfold wrapN; omega
  have EK := Lib.hid ek
  have EK2 := Lib.hid ek2
  have hss : wrapN (seq + 1) < 18446744073709551616 := by unfold wrapN; omega
  have ho' : n < m := ho
  rw [← hbb, ← hrest, ← hra] at hn0
  have hn0' : 0 < n := hn0
  have hdn : decide (n < m) = true := decide_eq_true (by omega)
  have hdn' : decide ((n : Int) < (m : Int)) = true := decide_eq_true (by omega)
  have hdz : decide (0 < n) = true := decide_eq_true (by omega)
  have hdz' : decide ((0 : Int) < (n : Int)) = true := decide_eq_true (by omega)
  have hmf : ∀ (fn : Fn) (first cap : Array Value) (w : World), (Instr.makeFunc fn first cap).run Tryz.prog w = .ok (.func fn first cap) w := fun _ _ _ _ => rfl
  have HA := Lib.hid hA
  clear ho' hn0 hA
  clear h hk1 hs hW1 hbb hrest hj hsuf hm hra hk ho ek ek2 hb1 hlen hrl hb63
  go_enter Tryz.func15, Tryz.ntmps15
  go_wp2_with fail
  rw [← HW1.out]
  refine (dDead A p mb d _ HD1.out).mono ?_
  rintro e w1 ⟨rfl, rfl⟩
  rw [hd]
  go_wp2_with fail
  refine ((wstate_ok W1 HD1.out HS.out).2).mono ?_
  rintro e w2 ⟨vx, rfl, hx2, k2⟩
  obtain ⟨xo, xc, rfl, hxc, -, -⟩ := id hx2
  obtain ⟨xn, hxn⟩ : ∃ xn, xn = x.length := ⟨_, rfl⟩
  rw [← hxn] at hx2 ⊢
  have HX2 := Lib.hid hx2
  have HD2 := Lib.hid (HD1.out.kp_ge k2)
  have HK2 := Lib.hid (HK1.out.trans (k2.mono (by simp) HK1.out.size))
  have c2 := (k2.cell (p := ⟨w.heap.size, 0, none⟩) hz1 (by simp)).trans c1
  have hz2 : w.heap.size < w2.heap.size := Nat.lt_of_lt_of_le hz1 k2.size
  clear k2 c1 hx2 hxn hxc
  go_wp2_with fail
  refine (dRead A p mb d sLog w2 HD2.out (by decide)).mono ?_
  rintro e w3 ⟨v3, rfl, ho3, k3⟩
  rw [← HBB.out] at ho3
  have HO3 := Lib.hid (own_bytes ho3)
  obtain ⟨o3, n3, p3, rfl, hn3⟩ := own_shape ho3
  have HX3 := Lib.hid (HX2.out.kp k3 (by simp))
  have HD3 := Lib.hid (HD2.out.kp_ge k3)
  have HK3 := Lib.hid (HK2.out.trans (k3.mono (by simp) HK2.out.size))
  have c3 := (k3.cell (p := ⟨w.heap.size, 0, none⟩) hz2 (by simp)).trans c2
  have hz3 : w.heap.size < w3.heap.size := Nat.lt_of_lt_of_le hz2 k3.size
  clear k3 c2 ho3
  go_wp2_with fail
  refine (wbehind _ b seq w3 HO3.out (by have := HL.out; rw [HBB.out]; omega) hsl).mono ?_
  rintro e w4 ⟨v4, rfl, h4, k4⟩
  rw [← HREST.out] at h4
  obtain ⟨o4, p4, rfl, hp4, hp4', -⟩ := id h4
  rw [← HM.out] at h4 hp4 ⊢
  have HR4 := Lib.hid h4
  have HX4 := Lib.hid (HX3.out.kp k4 (by simp))
  have HD4 := Lib.hid (HD3.out.kp_ge k4)
  have HK4 := Lib.hid (HK3.out.trans (k4.mono (by simp) HK3.out.size))
  have c4 := (k4.cell (p := ⟨w.heap.size, 0, none⟩) hz3 (by simp)).trans c3
  have hz4 : w.heap.size < w4.heap.size := Nat.lt_of_lt_of_le hz3 k4.size
  clear k4 c3 h4
  go_wp2_with fail
  refine (cAll _ rest (wrapN (seq + 1)) w4 HR4.out (by rw [← HM.out]; omega) hss).mono ?_
  rintro e w5 ⟨v5, rfl, h5, k5⟩
  rw [← HRA.out] at h5 ⊢
  obtain ⟨o5, p5, rfl, hp5, hp5'⟩ := h5.shape
  have HV5 := Lib.hid h5
  have h5l : (rows, n).1.length = k := HK.out.symm
  rw [h5l] at HV5 hp5 ⊢
  have HX5 := Lib.hid (HX4.out.kp k5 (by simp))
  have HR5 := Lib.hid (HR4.out.kp k5 (by simp))
  have HD5 := Lib.hid (HD4.out.kp_ge k5)
  have HK5 := Lib.hid (HK4.out.trans (k5.mono (by simp) HK4.out.size))
  have c5 := (k5.cell (p := ⟨w.heap.size, 0, none⟩) hz4 (by simp)).trans c4
  have hz5 : w.heap.size < w5.heap.size := Nat.lt_of_lt_of_le hz4 k5.size
  have hz45 := k5.size
  clear k5 c4 h5 h5l
  obtain ⟨r, hr⟩ : ∃ r, r = d.cutD rest n := ⟨_, rfl⟩
  have HR := Lib.hid hr
  clear hr
  have hmp : m ≤ p4 := hp4
  have hnp : n ≤ p4 := by omega
  have HTK : Hid (BytesV w5 (fun k => w.heap.size ≤ k) (.slice o4 n p4) (rest.take n)) := Lib.hid ((HR5.out.take n (by rw [← HM.out]; omega)).mono (A' := fun k => w.heap.size ≤ k) (Nat.le_refl _) (fun k h _ => ⟨by omega, rfl⟩))
  have hLaid : ∀ W, Kp [] w5.heap.size w5 W → Calls Tryz.prog 36 #[.pointer (some ⟨p, 0, none⟩), .slice o4 n p4, .string ⟨sLog.toArray⟩] W fun e w' => ∃ caps, e = .returned (.func (.func 60) #[] caps) ∧ StepOk w' A p mb 60 caps (fun d => d.laidD (rest.take n) sLog) ∧ Kp [] w5.heap.size w5 w' := fun W hk => (wlaid A p mb sLog (rest.take n) _ (fun k => w.heap.size ≤ k) W (by decide) (by have := HLT.out; have := hk.size; exact ⟨by omega, by omega⟩) (HTK.out.kp hk (by simp)) (by have := HLT.out; exact ⟨by omega, by omega⟩) (by simp; omega) (fun k hk2 => HA.out k (by have := hk.size; omega))).mono fun e w' ⟨caps, h1, h2, h3⟩ => ⟨caps, h1, h2, hk.trans (h3.mono (by simp) hk.size)⟩
  have HLaid := Lib.hid hLaid
  clear hLaid
  go_upto_region 14 with fail
  go_region_with (go_at_call 36; refine (HLaid.out _ (by first | exact Kp.refl _ _ _ | exact (Kp.refl _ _ _).drew 1)).mono ?_; rintro e w6 ⟨caps6, rfl, hs6, k6⟩)
  have HS6 := Lib.hid hs6
  have HK6 := Lib.hid (HK5.out.trans (k6.mono (by simp) HK5.out.size))
  have HD6 := Lib.hid (HD5.out.kp_ge k6)
  have HX6 := Lib.hid (HX5.out.kp k6 (by simp))
  have HV6 := Lib.hid (HV5.out.kpL k6 (by simp))
  have c6 := (k6.cell (p := ⟨w.heap.size, 0, none⟩) hz5 (by simp)).trans c5
  have hz6 : w.heap.size < w6.heap.size := Nat.lt_of_lt_of_le hz5 k6.size
  have hz56 := k6.size
  clear hs6 k6 c5
  go_wp2_with fail
  refine (wgone A p mb sNext w6 (by decide) (by have := HLT.out; exact ⟨by omega, by omega⟩)).mono ?_
  rintro e w7 ⟨caps7, rfl, hs7, k7⟩
  have k76 := k7.mono (L' := [p, mb]) (by simp) (Nat.le_refl _)
  have HS7 := Lib.hid hs7
  have HT7 := Lib.hid (HS6.out.kp k76)
  have HK7 := Lib.hid (HK6.out.trans (k7.mono (by simp) HK6.out.size))
  have HD7 := Lib.hid (HD6.out.kp_ge k7)
  have HX7 := Lib.hid (HX6.out.kp k7 (by simp))
  have HV7 := Lib.hid (HV6.out.kpL k7 (by simp))
  have c7 := (k7.cell (p := ⟨w.heap.size, 0, none⟩) hz6 (by simp)).trans c6
  have hz7 := k7.size
  clear hs7 k7 k76
  go_wp2_with fail
  obtain ⟨W8, hW8⟩ : ∃ W8, W8 = w7.alloc (.cells #[.func (.func 62) #[] caps7, .func (.func 60) #[] caps6] 25) := ⟨_, rfl⟩
  have hc8 := cells2 w7 (.func (.func 62) #[] caps7) (.func (.func 60) #[] caps6) 25
  have hk8 : Kp [] w7.heap.size w7 W8 := by rw [hW8]; exact (Kp.refl _ _ _).alloc (Nat.le_refl _) _
  have hz8 : w7.heap.size < W8.heap.size := by rw [hW8]; simp
  rw [← hW8] at hc8 ⊢
  have k86 := hk8.mono (L' := [p, mb]) (by simp) (Nat.le_refl _)
  have hst : Steps W8 A p mb w7.heap.size [⟨62, caps7, fun d => d.goneD sNext⟩, ⟨60, caps6, (fun d => d.laidD (rest.take n) sLog)⟩] := by
    intro i hi
    match i, hi with
    | 0, _ => exact ⟨hc8.1, HS7.out.kp k86, enter1⟩
    | 1, _ => exact ⟨hc8.2, HT7.out.kp k86, enter2⟩
  have h7w := HK7.out.size
  have hlt0 := HLT.out
  refine (wall [⟨62, caps7, fun d => d.goneD sNext⟩, ⟨60, caps6, (fun d => d.laidD (rest.take n) sLog)⟩] W8 (HD7.out.kp_ge hk8) hst ⟨hz8, by omega, by omega⟩ (by simp)).mono ?_
  rintro e w9 ⟨rfl, hd9, k9⟩
  have hall : allD (d, true) [⟨62, caps7, fun d => d.goneD sNext⟩, ⟨60, caps6, (fun d => d.laidD (rest.take n) sLog)⟩] = r := by
    rw [HR.out]
    show andD (andD (d, true) (fun d => d.goneD sNext)) (fun d => d.laidD (rest.take n) sLog) = d.cutD rest n
    unfold Dk.cutD
    rw [andD_true (r := (d, true)) rfl]
    exact congrArg (andD (d.goneD sNext)) (by funext d; rw [if_pos (by omega)])
  rw [hall] at hd9 ⊢
  have KA : Kp [p, mb] w.heap.size w w9 := (HK7.out.mono (L' := [p, mb]) (by simp) (Nat.le_refl _)).trans (((hk8.mono (L' := [p, mb]) (by simp) (Nat.le_refl _)).trans (k9.mono (by simp) hk8.size)).mono (by simp) h7w)
  have c9 := (k9.cell (p := ⟨w.heap.size, 0, none⟩) (by show w.heap.size < _; omega) (by simp; omega)).trans ((hk8.cell (p := ⟨w.heap.size, 0, none⟩) (by show w.heap.size < _; omega) (by simp)).trans c7)
  have HX9 := Lib.hid ((HX7.out.kp hk8 (by simp)).kp k9 (by simp; omega))
  have HV9 := Lib.hid ((HV7.out.kpL hk8 (by simp)).kpL k9 (by simp; omega))
  have HD9 := Lib.hid hd9
  have HKA := Lib.hid KA
  obtain ⟨d9, ok9⟩ := r
  clear hd9 hst hall KA k86 k9 hk8 hW8 hc8 c7 hz8 c6
  cases ok9 with
  | true =>
    go_wp2_with fail
    refine bodyPost_ret (v := .tuple #[.pointer (some ⟨w9.heap.size, 0, none⟩), .slice xo xn xc, .slice o5 k p5, .int .u16 0]) (by simp [results, Tryz.results15, go_sem]) rfl ?_
    rw [EK.out]
    have hh := open_end HKA.out HD9.out (HX9.out.mono (A' := fun k => w.heap.size ≤ k) (Nat.le_refl _) (fun k h _ => ⟨by omega, rfl⟩)) (HV9.out.base (by omega)) (wrapN (seq + k))
    rw [HK.out] at hh ⊢
    rw [← HBB.out, ← HREST.out, ← HRA.out]
    show CutP w A p mb (d.cutD rest n) x rows (wrapN (seq + rows.length)) _ _
    rw [← HR.out]
    exact hh
  | false =>
    go_wp2_with fail
    refine bodyPost_ret (v := .tuple #[.pointer none, .slice none 0 0, .slice none 0 0, .int .u16 22]) (by simp [results, Tryz.results15, go_sem]) rfl ?_
    rw [← HBB.out, ← HREST.out, ← HRA.out]
    show CutP w A p mb (d.cutD rest n) x rows (wrapN (seq + rows.length)) _ _
    rw [← HR.out]
    exact ⟨rfl, HD9.out, HKA.out⟩

end Go.Proofs.YtdabflkejhoghaaGreat.Hand
namespace Go.Proofs.YtdabflkejhoghaaGreat.Hand
open Go Go.RowKit Go.Maps Go.WideMaps
set_option linter.unusedVariables false
set_option linter.unusedSimpArgs false
def OpenP (w : World) (A : Nat → Prop) (p mb : Nat) (o : Opened) (e : Ending) (w' : World) : Prop := if o.err = 0 then OpenOk w A p mb o e w' else OpenNo w A p mb o e w'
theorem wOpen {A : Nat → Prop} {p mb : Nat} {d : Dk} (w : World) (h : IsDisk w A p mb d) (hA : ∀ k, w.heap.size ≤ k → A k) :
    Calls Tryz.prog 15 #[.pointer (some ⟨p, 0, none⟩)] w (OpenP w A p mb d.openD) := by
  cases hd : d.dead with
  | true =>
    have e : d.openD = ⟨d, 22, [], [], 0⟩ := by unfold Dk.openD; rw [if_pos hd]
    rw [e]
    exact (wOpen_dead w h hd).mono fun e w' h => by unfold OpenP; rw [if_neg (show ¬ (22 : Nat) = 0 by decide)]; exact h
  | false =>
    cases hs : d.stateD with
    | none =>
      have e : d.openD = ⟨d, 23, [], [], 0⟩ := by unfold Dk.openD; rw [if_neg (by simp [hd]), hs]
      rw [e]
      exact (wOpen_sum w h hd hs).mono fun e w' h => by unfold OpenP; rw [if_neg (show ¬ (23 : Nat) = 0 by decide)]; exact h
    | some q =>
      obtain ⟨x, seq⟩ := q
      by_cases hc : (allB (behindB (d.old sLog).b seq) (wrapN (seq + 1))).2 < (behindB (d.old sLog).b seq).length
      · have e : d.openD = if (d.cutD (behindB (d.old sLog).b seq) (allB (behindB (d.old sLog).b seq) (wrapN (seq + 1))).2).2 = true then
            ⟨(d.cutD (behindB (d.old sLog).b seq) (allB (behindB (d.old sLog).b seq) (wrapN (seq + 1))).2).1, 0, x, (allB (behindB (d.old sLog).b seq) (wrapN (seq + 1))).1, wrapN (seq + (allB (behindB (d.old sLog).b seq) (wrapN (seq + 1))).1.length)⟩
          else ⟨(d.cutD (behindB (d.old sLog).b seq) (allB (behindB (d.old sLog).b seq) (wrapN (seq + 1))).2).1, 22, [], [], 0⟩ := by
          unfold Dk.openD; rw [if_neg (by simp [hd]), hs]; simp only; rw [if_pos hc]
        rw [e]
        have hcut : Calls Tryz.prog 15 #[.pointer (some ⟨p, 0, none⟩)] w (CutP w A p mb (d.cutD (behindB (d.old sLog).b seq) (allB (behindB (d.old sLog).b seq) (wrapN (seq + 1))).2) x (allB (behindB (d.old sLog).b seq) (wrapN (seq + 1))).1 (wrapN (seq + (allB (behindB (d.old sLog).b seq) (wrapN (seq + 1))).1.length))) := by
          by_cases h0 : (allB (behindB (d.old sLog).b seq) (wrapN (seq + 1))).2 = 0
          · exact wOpen_drop w h hA hd hs hc h0
          · exact wOpen_laid w h hA hd hs hc (by omega)
        refine hcut.mono fun e w' h => ?_
        unfold CutP at h
        unfold OpenP
        by_cases hr : (d.cutD (behindB (d.old sLog).b seq) (allB (behindB (d.old sLog).b seq) (wrapN (seq + 1))).2).2 = true
        · rw [if_pos hr] at h ⊢; exact h
        · rw [if_neg hr] at h ⊢; exact h
      · have hle := (allB_le _ (behindB (d.old sLog).b seq) (wrapN (seq + 1)) (Nat.le_refl _)).1
        have e : d.openD = ⟨d, 0, x, (allB (behindB (d.old sLog).b seq) (wrapN (seq + 1))).1, wrapN (seq + (allB (behindB (d.old sLog).b seq) (wrapN (seq + 1))).1.length)⟩ := by
          unfold Dk.openD; rw [if_neg (by simp [hd]), hs]; simp only; rw [if_neg hc]
        rw [e]
        exact (wOpen_all w h hA hd hs (by omega)).mono fun e w' h => by unfold OpenP; rw [if_pos rfl]; exact h
/-- a log in memory -/
def IsLog (w : World) (A : Nat → Prop) (lb p mb : Nat) (l : Lg) : Prop := LogAt w lb p l.seq l.broken ∧ IsDisk w A p mb l.d ∧ lb ≠ p ∧ lb ≠ mb ∧ ¬ A lb ∧ l.seq < 18446744073709551616
theorem IsLog.lt {w : World} {A : Nat → Prop} {lb p mb : Nat} {l : Lg} (h : IsLog w A lb p mb l) : lb < w.heap.size := (Array.getElem?_eq_some_iff.1 h.1).1
theorem IsLog.cells {w : World} {A : Nat → Prop} {lb p mb : Nat} {l : Lg} (h : IsLog w A lb p mb l) : w.cell? ⟨lb, 0, none⟩ = some (.pointer (some ⟨p, 0, none⟩)) ∧ w.cell? ⟨lb, 1, none⟩ = some (.int .u64 (l.seq : Int)) ∧ w.cell? ⟨lb, 2, none⟩ = some (.bool l.broken) ∧ (∀ j, w.frozen? ⟨lb, j, none⟩ = false) := by
  have hb := h.1
  unfold LogAt at hb
  exact ⟨by rw [Lib.cell_of_heap hb]; rfl, by rw [Lib.cell_of_heap hb]; rfl, by rw [Lib.cell_of_heap hb]; rfl, fun j => Lib.frozen_of_heap hb j⟩
/-- a log while its disk turns -/
theorem IsLog.kpD {w w' : World} {A : Nat → Prop} {lb p mb : Nat} {l : Lg} (h : IsLog w A lb p mb l) {d' : Dk} (hk : Kp [p, mb] w.heap.size w w') (hd : IsDisk w' A p mb d') : IsLog w' A lb p mb ⟨d', l.seq, l.broken⟩ :=
  ⟨(hk.block lb h.lt (by have := h.2.2.1; have := h.2.2.2.1; simp; omega)).trans h.1, hd, h.2.2⟩
theorem IsLog.kp {w w' : World} {A : Nat → Prop} {lb p mb : Nat} {l : Lg} (h : IsLog w A lb p mb l) (hk : Kp [] w.heap.size w w') : IsLog w' A lb p mb l :=
  ⟨(hk.block lb h.lt (by simp)).trans h.1, h.2.1.kp_ge hk, h.2.2⟩
theorem IsLog.narrow {w : World} {A A' : Nat → Prop} {lb p mb : Nat} {l : Lg} (h : IsLog w A lb p mb l) (hA : ∀ k, A k → k < w.heap.size → A' k) (hn : ¬ A' p ∧ ¬ A' mb ∧ ¬ A' lb) : IsLog w A' lb p mb l :=
  ⟨h.1, h.2.1.mono (Nat.le_refl _) rfl rfl (fun k hk hl => ⟨hA k hk hl, rfl⟩) ⟨hn.1, hn.2.1⟩, h.2.2.1, h.2.2.2.1, hn.2.2, h.2.2.2.2.2⟩
theorem wSeq {A : Nat → Prop} {lb p mb : Nat} {l : Lg} (w : World) (h : IsLog w A lb p mb l) : Calls Tryz.prog 11 #[.pointer (some ⟨lb, 0, none⟩)] w fun e w' => e = .returned (.int .u64 (l.seq : Int)) ∧ w = w' := by
  obtain ⟨c0, c1, c2, -⟩ := h.cells
  clear h
  go_enter Tryz.func11, Tryz.ntmps11
  go_wp2
  go_ret
  exact ⟨rfl, rfl⟩
theorem wSeq_nil (w : World) : Calls Tryz.prog 11 #[.pointer none] w fun e w' => e = .returned (.int .u64 0) ∧ w = w' := by
  go_enter Tryz.func11, Tryz.ntmps11
  go_wp2
  go_ret
  exact ⟨rfl, rfl⟩
theorem wLong_nil (w : World) : Calls Tryz.prog 13 #[.pointer none] w fun e w' => e = .returned (.int .i64 0) ∧ w = w' := by
  go_enter Tryz.func13, Tryz.ntmps13
  go_wp2
  go_ret
  exact ⟨rfl, rfl⟩
theorem wLong {A : Nat → Prop} {lb p mb : Nat} {l : Lg} (w : World) (h : IsLog w A lb p mb l) : Calls Tryz.prog 13 #[.pointer (some ⟨lb, 0, none⟩)] w fun e w' => e = .returned (.int .i64 ((l.d.old sLog).b.length : Nat)) ∧ Kp [] w.heap.size w w' := by
  obtain ⟨c0, c1, c2, -⟩ := h.cells
  have HD := Lib.hid h.2.1
  clear h
  go_enter Tryz.func13, Tryz.ntmps13
  go_wp2_with fail
  refine (dRead A p mb l.d sLog w HD.out (by decide)).mono ?_
  rintro e w3 ⟨v3, rfl, ho3, k3⟩
  obtain ⟨o3, n3, p3, rfl, hn3⟩ := own_shape ho3
  have HK3 := Lib.hid k3
  clear k3 ho3
  go_wp2_with fail
  go_ret
  rw [hn3.out]
  exact ⟨rfl, HK3.out⟩
theorem wframe_nil (q : Int) (v : Value) (w : World) : Calls Tryz.prog 39 #[.pointer none, .int .u64 q, v] w fun e w' => e = .returned (.tuple #[.slice none 0 0, .int .u16 1]) ∧ w = w' := by
  go_enter Tryz.func39, Tryz.ntmps39
  go_wp2
  go_ret2
  exact ⟨rfl, rfl⟩
theorem wframe_broken {A : Nat → Prop} {lb p mb : Nat} {l : Lg} (w : World) (h : IsLog w A lb p mb l) (hb : l.broken = true) (q : Int) (v : Value) : Calls Tryz.prog 39 #[.pointer (some ⟨lb, 0, none⟩), .int .u64 q, v] w fun e w' => e = .returned (.tuple #[.slice none 0 0, .int .u16 22]) ∧ w = w' := by
  obtain ⟨c0, c1, c2, -⟩ := h.cells
  rw [hb] at c2
  clear h
  go_enter Tryz.func39, Tryz.ntmps39
  go_wp2
  go_ret2
  exact ⟨rfl, rfl⟩
theorem wframe_long {A B : Nat → Prop} {lb p mb : Nat} {l : Lg} (w : World) (h : IsLog w A lb p mb l) (hb : l.broken = false) (q : Nat) (v : Value) (b : List UInt8) (hv : BytesV w B v b) (hl : 65536 < b.length) : Calls Tryz.prog 39 #[.pointer (some ⟨lb, 0, none⟩), .int .u64 (q : Int), v] w fun e w' => e = .returned (.tuple #[.slice none 0 0, .int .u16 3]) ∧ w = w' := by
  obtain ⟨c0, c1, c2, -⟩ := h.cells
  rw [hb] at c2
  have HV := Lib.hid hv
  obtain ⟨ao, cap, rfl, -, -, -⟩ := id hv
  obtain ⟨m, hm⟩ : ∃ m, m = b.length := ⟨_, rfl⟩
  rw [← hm] at HV ⊢
  clear h hv hm
  go_enter Tryz.func39, Tryz.ntmps39
  go_wp2_with fail
  refine (cFrame_long q _ b w HV.out hl).mono ?_
  rintro e w1 ⟨rfl, rfl⟩
  go_wp2_with fail
  go_ret2
  exact ⟨rfl, rfl⟩
theorem wframe {A B : Nat → Prop} {lb p mb : Nat} {l : Lg} (w : World) (h : IsLog w A lb p mb l) (hb : l.broken = false) (q : Nat) (v : Value) (b : List UInt8) (hv : BytesV w B v b) (hl : b.length ≤ 65536) (hq : q < 18446744073709551616) : Calls Tryz.prog 39 #[.pointer (some ⟨lb, 0, none⟩), .int .u64 (q : Int), v] w (FrameP w q b) := by
  obtain ⟨c0, c1, c2, -⟩ := h.cells
  rw [hb] at c2
  have HV := Lib.hid hv
  obtain ⟨ao, cap, rfl, -, -, -⟩ := id hv
  obtain ⟨m, hm⟩ : ∃ m, m = b.length := ⟨_, rfl⟩
  rw [← hm] at HV ⊢
  clear h hv hm
  unfold FrameP
  go_enter Tryz.func39, Tryz.ntmps39
  go_wp2_with fail
  refine (cFrame q _ b w HV.out hq hl).mono ?_
  rintro e w1 ⟨v1, rfl, h1, k1⟩
  obtain ⟨o3, n3, p3, rfl, hn3⟩ := own_shape h1
  have H1 := Lib.hid h1
  have K1 := Lib.hid k1
  clear h1 k1
  go_wp2_with fail
  go_ret2
  exact ⟨_, rfl, H1.out, K1.out⟩
theorem wfailed_full {A : Nat → Prop} {lb p mb : Nat} {l : Lg} (w : World) (h : IsLog w A lb p mb l) (hd : l.d.dead = false) : Calls Tryz.prog 42 #[.pointer (some ⟨lb, 0, none⟩)] w fun e w' => e = .returned (.int .u16 21) ∧ w = w' := by
  obtain ⟨c0, c1, c2, -⟩ := h.cells
  have HD := Lib.hid h.2.1
  clear h
  go_enter Tryz.func42, Tryz.ntmps42
  go_wp2_with fail
  refine (dDead A p mb l.d w HD.out).mono ?_
  rintro e w1 ⟨rfl, rfl⟩
  rw [hd]
  go_wp2_with fail
  go_ret
  exact ⟨rfl, rfl⟩
theorem wfailed_dead {A : Nat → Prop} {lb p mb : Nat} {l : Lg} (w : World) (h : IsLog w A lb p mb l) (hd : l.d.dead = true) : Calls Tryz.prog 42 #[.pointer (some ⟨lb, 0, none⟩)] w fun e w' => e = .returned (.int .u16 22) ∧ IsLog w' A lb p mb ⟨l.d, l.seq, true⟩ ∧ Kp [lb] w.heap.size w w' := by
  obtain ⟨c0, c1, c2, hf⟩ := h.cells
  have f2 := hf 2
  have H := Lib.hid h
  clear h hf
  go_enter Tryz.func42, Tryz.ntmps42
  go_wp2_with fail
  refine (dDead A p mb l.d w H.out.2.1).mono ?_
  rintro e w1 ⟨rfl, rfl⟩
  rw [hd]
  go_wp2_with fail
  go_ret
  have hk : Kp [lb] w.heap.size w (w.setCell ⟨lb, 2, none⟩ (.bool true)) := (Kp.refl _ _ _).setCell (.inr (by simp)) _ _ _
  refine ⟨rfl, ⟨?_, ?_, H.out.2.2⟩, hk⟩
  · have hb := H.out.1
    unfold LogAt at hb ⊢
    simp [World.setCell, Array.getElem?_modify, hb]
  · exact H.out.2.1.kp hk (Nat.le_refl _) (by have := H.out.2.2; simp; exact ⟨this.2.2.1, this.1, this.2.1⟩)
end Go.Proofs.YtdabflkejhoghaaGreat.Hand
namespace Go.Proofs.YtdabflkejhoghaaGreat.Hand
open Go Go.RowKit Go.Maps Go.WideMaps
set_option linter.unusedVariables false
set_option linter.unusedSimpArgs false
/-- what an act of a log answers -/
def ActP (w : World) (A : Nat → Prop) (lb p mb : Nat) (r : Lg × Nat) (e : Ending) (w' : World) : Prop := e = .returned (.int .u16 (r.2 : Int)) ∧ IsLog w' A lb p mb r.1 ∧ Kp [p, mb, lb] w.heap.size w w'
theorem append_broken {l : Lg} {b : List UInt8} (h : l.broken = true) : l.append b = (l, 22) := by unfold Lg.append; rw [if_pos h]
theorem append_long {l : Lg} {b : List UInt8} (h : l.broken = false) (hb : 65536 < b.length) : l.append b = (l, 3) := by unfold Lg.append; rw [if_neg (by simp [h]), if_pos hb]
theorem append_some {l : Lg} {b : List UInt8} (h : l.broken = false) (hb : b.length ≤ 65536) {r : Dk × Bool} (hr : andD (l.d.append sLog (frameB (wrapN (l.seq + 1)) b)) (fun d => d.sync sLog) = r) :
    l.append b = if r.2 = true then (⟨r.1, wrapN (l.seq + 1), l.broken⟩, 0) else if r.1.dead = true then (⟨r.1, l.seq, true⟩, 22) else (⟨r.1, l.seq, l.broken⟩, 21) := by
  unfold Lg.append; rw [if_neg (by simp [h]), if_neg (by omega), hr]; rfl
theorem wrapN_lt (n : Nat) : wrapN n < 18446744073709551616 := by unfold wrapN; omega
theorem wfailed {A : Nat → Prop} {lb p mb : Nat} {l : Lg} (w : World) (h : IsLog w A lb p mb l) : Calls Tryz.prog 42 #[.pointer (some ⟨lb, 0, none⟩)] w fun e w' => ∃ q : Nat, (l.d.dead = true ∧ q = 22 ∧ IsLog w' A lb p mb ⟨l.d, l.seq, true⟩ ∨ l.d.dead = false ∧ q = 21 ∧ IsLog w' A lb p mb l) ∧ e = .returned (.int .u16 (q : Int)) ∧ Kp [lb] w.heap.size w w' := by
  cases hd : l.d.dead with
  | true => exact (wfailed_dead w h hd).mono fun e w' ⟨h1, h2, h3⟩ => ⟨22, .inl ⟨rfl, rfl, h2⟩, h1, h3⟩
  | false => exact (wfailed_full w h hd).mono fun e w' ⟨h1, h2⟩ => ⟨21, .inr ⟨rfl, rfl, by subst h2; exact h⟩, h1, by subst h2; exact Kp.refl _ _ _⟩
set_option maxHeartbeats 2000000 in
set_option maxRecDepth 100000 in
theorem wAppend {A B : Nat → Prop} {lb p mb : Nat} {l : Lg} (w : World) (h : IsLog w A lb p mb l) (v : Value) (b : List UInt8) (hv : BytesV w B v b) (hA : ∀ k, w.heap.size ≤ k → A k) :
    Calls Tryz.prog 16 #[.pointer (some ⟨lb, 0, none⟩), v] w (ActP w A lb p mb (l.append b)) := by
  have H := Lib.hid h
  have HV := Lib.hid hv
  have HA := Lib.hid hA
  obtain ⟨ao, cap, rfl, -, -, -⟩ := id hv
  obtain ⟨m, hm⟩ : ∃ m, m = b.length := ⟨_, rfl⟩
  rw [← hm] at HV ⊢
  have HM := Lib.hid hm
  have hsl := h.2.2.2.2.2
  have es : IntKind.u64.wrap ((l.seq : Int) + 1) = ((wrapN (l.seq + 1) : Nat) : Int) := by rw [IntKind.wrap_u64]; unfold wrapN; omega
  have es2 : ((l.seq : Int) + 1) % 18446744073709551616 = ((wrapN (l.seq + 1) : Nat) : Int) := by unfold wrapN; omega
  obtain ⟨q, hq⟩ : ∃ q, q = wrapN (l.seq + 1) := ⟨_, rfl⟩
  have hql : q < 18446744073709551616 := by rw [hq]; exact wrapN_lt _
  rw [← hq] at es es2
  have HQ := Lib.hid hq
  unfold ActP
  have hlt := h.2.1.lt
  have HLT := Lib.hid hlt
  clear h hv hA hm hq hlt
  cases hb : l.broken with
  | true =>
    have HE := Lib.hid (append_broken (b := b) hb)
    go_enter Tryz.func16, Tryz.ntmps16
    go_wp2_with fail
    refine (wSeq w H.out).mono ?_
    rintro e w1 ⟨rfl, rfl⟩
    go_wp2_with fail
    refine (wframe_broken w H.out hb _ _).mono ?_
    rintro e w1 ⟨rfl, rfl⟩
    go_wp2_with fail
    go_ret
    rw [HE.out]
    exact ⟨rfl, H.out, Kp.refl _ _ _⟩
  | false =>
    by_cases hbl : 65536 < b.length
    · have HE := Lib.hid (append_long hb hbl)
      go_enter Tryz.func16, Tryz.ntmps16
      go_wp2_with fail
      refine (wSeq w H.out).mono ?_
      rintro e w1 ⟨rfl, rfl⟩
      go_wp2_with fail
      refine (wframe_long w H.out hb q _ b HV.out hbl).mono ?_
      rintro e w1 ⟨rfl, rfl⟩
      go_wp2_with fail
      go_ret
      rw [HE.out]
      exact ⟨rfl, H.out, Kp.refl _ _ _⟩
    · have hbl' : b.length ≤ 65536 := by omega
      obtain ⟨r1, hr1⟩ : ∃ r, r = l.d.append sLog (frameB q b) := ⟨_, rfl⟩
      have HR1 := Lib.hid hr1
      have HE : Hid (∀ r, andD r1 (fun d => d.sync sLog) = r → l.append b = if r.2 = true then (⟨r.1, q, l.broken⟩, 0) else if r.1.dead = true then (⟨r.1, l.seq, true⟩, 22) else (⟨r.1, l.seq, l.broken⟩, 21)) := Lib.hid (fun r hr => by rw [hr1, HQ.out] at hr; rw [HQ.out]; exact append_some hb hbl' hr)
      obtain ⟨c0, c1, c2, hf⟩ := H.out.cells
      have f1 := hf 1
      clear hr1 hf
      go_enter Tryz.func16, Tryz.ntmps16
      go_wp2_with fail
      refine (wSeq w H.out).mono ?_
      rintro e w1 ⟨rfl, rfl⟩
      go_wp2_with fail
      refine (wframe w H.out hb q _ b HV.out hbl' hql).mono ?_
      rintro e w1 ⟨v1, rfl, h1, k1⟩
      obtain ⟨o1, n1, p1, rfl, hn1⟩ := own_shape h1
      have HB1 := Lib.hid (own_bytes h1)
      have H1 := Lib.hid (H.out.kp k1)
      have HK1 := Lib.hid k1
      have d0 := (k1.cell (p := ⟨lb, 0, none⟩) H.out.lt (by simp)).trans c0
      clear h1 k1 c0 c1 c2 f1
      go_wp2_with fail
      refine (dAppend A p mb l.d sLog (frameB q b) _ _ w1 H1.out.2.1 (by decide) HB1.out (by have := HLT.out; omega) (by rw [frameB_length]; omega) (fun k hk => HA.out k (by have := HK1.out.size; omega))).mono ?_
      rintro e w2 ⟨rfl, h2, k2⟩
      rw [← HR1.out] at h2 ⊢
      have H2 := Lib.hid (H1.out.kpD k2 h2)
      have HK2 := Lib.hid ((HK1.out.mono (L' := [p, mb]) (by simp) (Nat.le_refl _)).trans (k2.mono (by simp) HK1.out.size))
      clear h2 k2 d0
      obtain ⟨d1, ok1⟩ := r1
      obtain ⟨e0, e1, e2, hf2⟩ := H2.out.cells
      cases ok1 with
      | false =>
        have HE2 := Lib.hid (HE.out (d1, false) rfl)
        clear e1 e2 hf2
        go_wp2_with fail
        refine (wfailed w2 H2.out).mono ?_
        rintro e w3 ⟨q3, h3, rfl, k3⟩
        have HK3 := Lib.hid ((HK2.out.mono (L' := [p, mb, lb]) (by simp) (Nat.le_refl _)).trans (k3.mono (by simp) HK2.out.size))
        have H3 := Lib.hid h3
        clear h3 k3 e0
        go_wp2_with fail
        go_ret
        rw [HE2.out]
        rcases H3.out with ⟨hd, rfl, h4⟩ | ⟨hd, rfl, h4⟩
        · rw [if_neg (by simp), if_pos hd]; exact ⟨rfl, h4, HK3.out⟩
        · rw [if_neg (by simp), if_neg (by simp [show d1.dead = false from hd])]; exact ⟨rfl, h4, HK3.out⟩
      | true =>
        obtain ⟨r2, hr2⟩ : ∃ r, r = d1.sync sLog := ⟨_, rfl⟩
        have HR2 := Lib.hid hr2
        have HE2 : Hid _ := Lib.hid (HE.out r2 (by rw [hr2]; rfl))
        clear e1 e2 hf2 hr2
        go_wp2_with fail
        refine (dSync A p mb d1 sLog w2 H2.out.2.1 (by decide)).mono ?_
        rintro e w3 ⟨rfl, h3, k3⟩
        rw [← HR2.out] at h3 ⊢
        have H3 := Lib.hid (H2.out.kpD k3 h3)
        have HK3 := Lib.hid (HK2.out.trans (k3.mono (by simp) HK2.out.size))
        clear h3 k3 e0
        obtain ⟨d2, ok2⟩ := r2
        obtain ⟨e0, e1, e2, hf2⟩ := H3.out.cells
        have f1 := hf2 1
        cases ok2 with
        | false =>
          clear e1 e2 hf2 f1
          go_wp2_with fail
          refine (wfailed w3 H3.out).mono ?_
          rintro e w4 ⟨q3, h4, rfl, k4⟩
          have HK4 := Lib.hid ((HK3.out.mono (L' := [p, mb, lb]) (by simp) (Nat.le_refl _)).trans (k4.mono (by simp) HK3.out.size))
          have H4 := Lib.hid h4
          clear h4 k4 e0
          go_wp2_with fail
          go_ret
          rw [HE2.out]
          rcases H4.out with ⟨hd, rfl, h4⟩ | ⟨hd, rfl, h4⟩
          · rw [if_neg (by simp), if_pos hd]; exact ⟨rfl, h4, HK4.out⟩
          · rw [if_neg (by simp), if_neg (by simp [show d2.dead = false from hd])]; exact ⟨rfl, h4, HK4.out⟩
        | true =>
          clear e0 e2 hf2
          go_wp2_with fail
          go_ret
          have he : l.append b = (⟨d2, q, l.broken⟩, 0) := by have := HE2.out; simpa using this
          rw [he]
          have hk : Kp [lb] w3.heap.size w3 (w3.setCell ⟨lb, 1, none⟩ (.int .u64 (q : Int))) := (Kp.refl _ _ _).setCell (.inr (by simp)) _ _ _
          refine ⟨rfl, ⟨?_, ?_, H3.out.2.2.1, H3.out.2.2.2.1, H3.out.2.2.2.2.1, hql⟩, (HK3.out.mono (L' := [p, mb, lb]) (by simp) (Nat.le_refl _)).trans (hk.mono (by simp) HK3.out.size)⟩
          · have hb := H3.out.1
            unfold LogAt at hb ⊢
            simp [World.setCell, Array.getElem?_modify, hb]
          · exact H3.out.2.1.kp hk (Nat.le_refl _) (by have := H3.out.2.2; simp; exact ⟨this.2.2.1, this.1, this.2.1⟩)
end Go.Proofs.YtdabflkejhoghaaGreat.Hand
namespace Go.Proofs.YtdabflkejhoghaaGreat.Hand
open Go Go.RowKit Go.Maps Go.WideMaps
set_option linter.unusedVariables false
set_option linter.unusedSimpArgs false
/-- an opening that makes a log, as the laws meet it -/
theorem OpenOk.log {w w' : World} {A : Nat → Prop} {p mb : Nat} {d0 d : Dk} {n q : Nat} {x : List UInt8} {rows : List (List UInt8)} {e : Ending} (h : OpenOk w A p mb ⟨d, n, x, rows, q⟩ e w') (hd : IsDisk w A p mb d0) (hq : q < 18446744073709551616) :
    ∃ (lb : Nat) (vx vl : Value), e = .returned (.tuple #[.pointer (some ⟨lb, 0, none⟩), vx, vl, .int .u16 0]) ∧ IsLog w' (fun k => A k ∧ k ≠ lb) lb p mb ⟨d, q, false⟩ ∧ BytesV w' (fun k => w.heap.size ≤ k ∧ k ≠ lb) vx x ∧ RowsR w' w.heap.size vl rows ∧ w.heap.size ≤ lb ∧ lb < w'.heap.size ∧ Kp [p, mb] w.heap.size w w' := by
  obtain ⟨lb, vx, vl, rfl, h1, h2, h3, h4, h5, h6⟩ := h
  have hlt := hd.lt
  have hlog : IsLog w' (fun k => A k ∧ k ≠ lb) lb p mb ⟨d, q, false⟩ := ⟨h1, h2, by omega, by omega, fun h => h.2 rfl, hq⟩
  exact ⟨lb, vx, vl, rfl, hlog, h3, h4, h5, hlog.lt, h6⟩
theorem OpenP.ok {w w' : World} {A : Nat → Prop} {p mb : Nat} {o : Opened} {e : Ending} (h : OpenP w A p mb o e w') (ho : o.err = 0) : OpenOk w A p mb o e w' := by unfold OpenP at h; rwa [if_pos ho] at h
theorem OpenP.no {w w' : World} {A : Nat → Prop} {p mb : Nat} {o : Opened} {e : Ending} (h : OpenP w A p mb o e w') (ho : o.err ≠ 0) : OpenNo w A p mb o e w' := by unfold OpenP at h; rwa [if_neg ho] at h
/-- a row of rows -/
theorem RowsR.at {w : World} {base n cap : Nat} {ao : Option Addr} {L : List (List UInt8)} (h : RowsR w base (.slice ao n cap) L) (i : Nat) (hi : i < L.length) : ∃ g vi, ao = some ⟨g, 0, none⟩ ∧ w.cell? ⟨g, i, none⟩ = some vi ∧ w.ownsRow base 5 1 vi L[i].length (bcells L[i]) := by
  obtain ⟨hs, rfl, h2, h3⟩ := h
  have hi' : i < hs.length := by simpa using hi
  obtain ⟨hl, hv⟩ := h2
  rcases hv with ⟨he, hn⟩ | ⟨g, cap', cur, he, hg, hb, h4, h5, h6, h7⟩
  · omega
  · injection he with he _ _
    refine ⟨g, hs[i].1, he, ?_, ?_⟩
    · rw [Lib.cell_of_heap hb, ← Array.getElem?_toList]
      have h8 : (cur.toList.take (hs.length * 1))[i]? = (hs.map (·.1))[i]? := by rw [h7]
      rw [List.getElem?_take_of_lt (by omega)] at h8
      rw [h8, List.getElem?_map, List.getElem?_eq_getElem hi']; rfl
    · have := h3 hs[i] (List.getElem_mem hi')
      simpa using this
theorem IsDisk.widen {w : World} {A A' : Nat → Prop} {p mb : Nat} {d : Dk} (h : IsDisk w A p mb d) (hA : ∀ k, A k → A' k) (hp : ¬ A' p ∧ ¬ A' mb) : IsDisk w A' p mb d := h.mono (Nat.le_refl _) rfl rfl (fun k hk _ => ⟨hA k hk, rfl⟩) hp
def ab : List UInt8 := [97, 98]
theorem known_plain : ∃ d1, (Lg.mk (Dk.new 1000) 0 false).append ab = (⟨d1, 1, false⟩, 0) ∧ d1.openD = ⟨d1, 0, [], [ab], 1⟩ := by
  obtain ⟨l', h1, h2, h3, h4, h5⟩ := (Calm.new 1000).append (b := ab) (by decide) (by decide) (by decide)
  obtain ⟨d1, q, br⟩ := l'
  have hq : q = 1 := h5
  have hb : br = false := h2.broken
  subst hq hb
  refine ⟨d1, h1, ?_⟩
  exact h2.open (state_none (h4.trans rfl)) (by decide)
set_option maxHeartbeats 1600000 in
set_option maxRecDepth 100000 in
theorem l14known (w : World) : Calls Tryz.prog 5 #[] w (knownP w) := by
  obtain ⟨d1, e1, e2⟩ := known_plain
  have e0 := open_new 1000
  have E0 := Lib.hid e0
  have E1 := Lib.hid e1
  have E2 := Lib.hid e2
  clear e0 e1 e2
  unfold knownP
  have kc := fun (w : World) (C : Array Value) (n c : Nat) => Lib.run_convert_bytes_const (P := Tryz.prog) w 39 5 C n c Tryz.underlying39 Tryz.underlying5
  go_enter Tryz.func5, Tryz.ntmps5
  go_wp2_with fail
  refine (dNew (fun _ => False) 1000 _ (by omega) ⟨id, id⟩).mono ?_
  rintro e w1 ⟨rfl, h1, k1⟩
  have hz1 := h1.lt
  obtain ⟨A, hA⟩ : ∃ A : Nat → Prop, A = fun k => w1.heap.size ≤ k := ⟨_, rfl⟩
  have h1' : IsDisk w1 A (w.heap.size + 1) w.heap.size (Dk.new 1000) := h1.widen (fun _ h => h.elim) (by rw [hA]; exact ⟨by omega, by omega⟩)
  have HA := Lib.hid hA
  have H1 := Lib.hid h1'
  have K1 := Lib.hid k1
  clear h1 h1' k1 hA
  go_wp2_with fail
  refine (wOpen w1 H1.out (fun k hk => by rw [HA.out]; exact hk)).mono ?_
  rintro e w2 h2
  rw [E0.out] at h2
  obtain ⟨lb, vx, vl, rfl, hl2, hx2, hr2, hlb, hlb2, k2⟩ := (h2.ok rfl).log H1.out (by decide)
  obtain ⟨ax, cx, rfl, -, -, -⟩ := hx2
  obtain ⟨al, cl, rfl, -, -⟩ := hr2.shape
  have HL2 := Lib.hid hl2
  have K2 := Lib.hid (K1.out.trans (k2.shed (B' := w.heap.size) (by simp) (by omega)))
  clear h2 hl2 hr2 k2
  go_wp2_with fail
  have hB3 : BytesV (w2.alloc (.cells #[.int .u8 97, .int .u8 98] 5 (2, 3))) (fun k => k ≠ w.heap.size + 1) (.slice (some ⟨w2.heap.size, 0, none⟩) 2 2) ab := BytesV.lit2 (x := 97) (y := 98) (by have := HL2.out.2.1.lt; omega)
  have kl : Kp [] w2.heap.size w2 (w2.alloc (.cells #[.int .u8 97, .int .u8 98] 5 (2, 3))) := (Kp.refl _ _ _).alloc (Nat.le_refl _) _
  refine (wAppend _ (HL2.out.kp kl) _ ab hB3 (fun k hk => by rw [HA.out]; simp at hk; exact ⟨by show w1.heap.size ≤ k; omega, by omega⟩)).mono ?_
  rintro e w3 ⟨rfl, hl3, k3⟩
  rw [E1.out] at hl3 ⊢
  have HL3 := Lib.hid hl3
  have K3 := Lib.hid (K2.out.trans ((kl.mono (by simp) K2.out.size).trans (k3.shed (B' := w.heap.size) (by simp; omega) (by have := K2.out.size; simp; omega))))
  clear hB3 kl hl3 k3
  go_wp2_with fail
  refine (wOpen w3 HL3.out.2.1 (fun k hk => by rw [HA.out]; have := HL3.out.lt; have := K3.out.size; exact ⟨by show w1.heap.size ≤ k; omega, by omega⟩)).mono ?_
  rintro e w4 h4
  rw [E2.out] at h4
  obtain ⟨lb4, vx4, vl4, rfl, hl4, hx4, hr4, hlb4, hlb42, k4⟩ := (h4.ok rfl).log HL3.out.2.1 (by decide)
  obtain ⟨ax4, cx4, rfl, -, -, -⟩ := hx4
  obtain ⟨al4, cl4, rfl, -, -⟩ := hr4.shape
  obtain ⟨g, vi, hga, hcell, hvi⟩ := hr4.at 0 (by decide)
  subst hga
  have cv := conv_bytes (own_bytes hvi)
  have hvs : ([ab] : List (List UInt8))[0] = ab := rfl
  rw [hvs] at cv
  unfold ab at cv
  have HLL := Lib.hid (IsLog.kpD (l := ⟨d1, 1, false⟩) HL3.out k4 ((h4.ok rfl).choose_spec.choose_spec.choose_spec.2.2.1.mono (Nat.le_refl _) rfl rfl (fun k h _ => ⟨h.1, rfl⟩) (HL3.out.2.1.apart.2)))
  have K4 := Lib.hid (K3.out.trans (k4.shed (B' := w.heap.size) (by simp) (by have := K3.out.size; omega)))
  clear h4 hl4 hr4 k4 hvi
  go_wp2_with fail
  refine (wSeq w4 HLL.out).mono ?_
  rintro e w5 ⟨rfl, rfl⟩
  go_wp2_with fail
  go_ret
  exact ⟨rfl, K4.out⟩
end Go.Proofs.YtdabflkejhoghaaGreat.Hand
