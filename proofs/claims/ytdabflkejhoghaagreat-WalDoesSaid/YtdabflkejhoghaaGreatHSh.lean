/- The log's law: both, opened. -/
import Derived.Below
import Derived.Deep.Draws
import Derived.Deep.AppendLies
import Derived.Maps.AppendAt
import Derived.OwnWalk
import Derived.Laws.BytesArg
import Derived.Laws.MakeOwn
import Derived.Laws.OwnMore
import Derived.Deep.OwnRows
import Derived.Tactics
import Derived.Lib.ConvBytes
import Derived.Laws.Slices
import Derived.WalkKit
import Derived.KernelRfl
import Derived.RowKit3
import Derived.Deep.LoopGhost
import Derived.Deep.QuietTactic
import Derived.BigQuiet
import Derived.WideLaws
import Derived.Deep.DeepCutAuto
import Derived.Deep.CutBlock
import Derived.Deep.RegionHeld3
import Derived.Laws.Rows
import Derived.Lib.AppendStr
import Derived.ArgAppend
import Derived.Laws.IdiomCopy
import Derived.OrdersHeld
import Derived.Laws.BitsLemmas
import Derived.RowKit
import Derived.Outline
import Derived.Maps.Own
import Derived.Maps.OwnOps
import Derived.Maps.OwnSet
import Derived.Maps.Views
import Derived.Maps.RangeWalk
import Derived.Maps.Ext
import Derived.RangeFuncOwn
import Derived.OneCell
import Derived.Deep.DeepMust
import Derived.Lib.Hide
import Derived.StillTailTactics
import Derived.Laws.AppendOwnNone
import Derived.WalkMore
import Derived.Lib.SlBytesConst
import Derived.WalkLawsBesides
import Derived.Laws.BitsAllLaws
import Derived.Test.YtdabflkejhoghaaGreatWLast
import Derived.Test.YtdabflkejhoghaaGreatHWa
import Derived.Test.YtdabflkejhoghaaGreatHKc
import Derived.Test.YtdabflkejhoghaaGreatHSg
namespace Go.Proofs.YtdabflkejhoghaaGreat.Hand
open Go Go.RowKit Go.Maps Go.WideMaps Go.Proofs.YtdabflkejhoghaaGreat.HW Go.Proofs.YtdabflkejhoghaaGreatW.PrintLast
set_option linter.unusedVariables false
set_option linter.unusedSimpArgs false
/-- a box of both: the program's disk d, its log's pointer, the reference's log -/
structure Both (w : World) (A : Nat → Prop) (gb p mb : Nat) (lp : Value) (d : Dk) (q : Nat) (br : Bool) : Prop where
  disk : IsDisk w A p mb d
  box : ∃ (ao : Option Addr) (n cap : Nat) (left : Int), w.heap[gb]? = some (.cells #[.pointer (some ⟨p, 0, none⟩), lp, .slice ao n cap, .int .i64 (d.room : Int), .bool d.fuse.isSome, .int .i64 left, .bool d.dead, .int .u64 (q : Int), .bool br] 38 (0, 0)) ∧ IsT w (.agg #[.slice ao n cap, .int .i64 (d.room : Int), .bool d.fuse.isSome, .int .i64 left, .bool d.dead]) d
  apart : ¬ A gb ∧ gb ≠ p ∧ gb ≠ mb
theorem noU8_B (p : Nat) (lp : Option Addr) (o : Option Addr) (n c : Nat) (x : Int) (y : Bool) (z : Int) (t : Bool) (q : Int) (u : Bool) : NoU8 #[.pointer (some ⟨p, 0, none⟩), .pointer lp, .slice o n c, .int .i64 x, .bool y, .int .i64 z, .bool t, .int .u64 q, .bool u] := noU8_of (by
  intro v hv
  simp only [List.mem_cons, List.not_mem_nil, or_false] at hv
  rcases hv with rfl | rfl | rfl | rfl | rfl | rfl | rfl | rfl | rfl <;> simp)
theorem boxB {w : World} {g : Nat} {x0 x1 x2 x3 x4 x5 x6 x7 x8 : Value} {t : TypeId} {fr : Nat × Nat} (h : w.heap[g]? = some (.cells #[x0, x1, x2, x3, x4, x5, x6, x7, x8] t fr)) : w.cell? ⟨g, 0, none⟩ = some x0 ∧ w.cell? ⟨g, 1, none⟩ = some x1 ∧ w.cell? ⟨g, 2, none⟩ = some x2 ∧ w.cell? ⟨g, 3, none⟩ = some x3 ∧ w.cell? ⟨g, 4, none⟩ = some x4 ∧ w.cell? ⟨g, 5, none⟩ = some x5 ∧ w.cell? ⟨g, 6, none⟩ = some x6 ∧ w.cell? ⟨g, 7, none⟩ = some x7 ∧ w.cell? ⟨g, 8, none⟩ = some x8 :=
  ⟨by rw [Lib.cell_of_heap h]; rfl, by rw [Lib.cell_of_heap h]; rfl, by rw [Lib.cell_of_heap h]; rfl, by rw [Lib.cell_of_heap h]; rfl, by rw [Lib.cell_of_heap h]; rfl, by rw [Lib.cell_of_heap h]; rfl, by rw [Lib.cell_of_heap h]; rfl, by rw [Lib.cell_of_heap h]; rfl, by rw [Lib.cell_of_heap h]; rfl⟩
/-- blocks in which no bytes and no files lie -/
def Shy (w : World) (r : Nat) : Prop := ∀ cs T fr, w.heap[r]? = some (.cells cs T fr) → T ≠ 65 ∧ NoU8 cs
theorem BytesV.shy {w w' : World} {A : Nat → Prop} {v : Value} {b : List UInt8} {L : List Nat} (h : BytesV w A v b) (hL : ∀ r ∈ L, Shy w r) (hk : Kp L w.heap.size w w') : BytesV w' A v b := by
  have h2 : BytesV w (fun k => A k ∧ k ∉ L) v b := by
    obtain ⟨ao, cap, rfl, h1, h2, h3⟩ := h
    refine ⟨ao, cap, rfl, h1, h2, h3.imp id fun ⟨a, e, h4, h5⟩ => ⟨a, e, fun hb => ⟨⟨(h4 hb).1, fun ea => ?_⟩, (h4 hb).2⟩, h5⟩⟩
    obtain ⟨n, h0⟩ : ∃ n, w.cell? (a.add 0) = some (.int .u8 n) := ⟨_, h5 0 (by cases b with | nil => exact absurd rfl hb | cons => simp)⟩
    have e0 : a.add 0 = a := by unfold Addr.add; rw [if_pos rfl]
    rw [e0] at h0
    unfold World.cell? at h0
    split at h0
    · rename_i cs T fr hb1
      split at h0
      · cases h0
      · exact (hL _ ea _ _ _ hb1).2 _ _ h0 _ rfl
    · cases h0
  exact h2.mono hk.size (fun k hk1 hk2 => ⟨hk1.1, hk.block k hk2 hk1.2⟩)
theorem IsT.shy {w w' : World} {v : Value} {d : Dk} {L : List Nat} (h : IsT w v d) (hL : ∀ r ∈ L, Shy w r) (hk : Kp L w.heap.size w w') : IsT w' v d := by
  obtain ⟨fv, left, rfl, ⟨hs, h1, ⟨h2, h3⟩, h4⟩, h5⟩ := h
  refine ⟨fv, left, rfl, ⟨hs, h1, ⟨h2, ?_⟩, fun x hx => (h4 x hx).shy hL hk⟩, h5⟩
  rcases h3 with h3 | ⟨g, cap, cur, hv, hg, hb, h6⟩
  · exact .inl h3
  · exact .inr ⟨g, cap, cur, hv, hg, (hk.block g (Array.getElem?_eq_some_iff.1 hb).1 (fun e => (hL g e _ _ _ hb).1 rfl)).trans hb, h6⟩
theorem noU8_D (mb : Nat) (x : Int) (y : Bool) (z : Int) (t : Bool) : NoU8 #[.map (some mb), .int .i64 x, .bool y, .int .i64 z, .bool t] := noU8_of (by
  intro u hu
  simp only [List.mem_cons, List.not_mem_nil, or_false] at hu
  rcases hu with rfl | rfl | rfl | rfl | rfl <;> simp)
theorem IsDisk.shy {w : World} {A : Nat → Prop} {p mb : Nat} {d : Dk} (h : IsDisk w A p mb d) : ∀ r ∈ [p, mb], Shy w r := by
  obtain ⟨left, gs, hp, _, _, ⟨es, clock, hm, _⟩, _⟩ := h
  intro r hr cs T fr hb
  simp only [List.mem_cons, List.not_mem_nil, or_false] at hr
  rcases hr with rfl | rfl
  · rw [hp] at hb
    injection hb with hb
    injection hb with h1 h2 _
    subst h1 h2
    exact ⟨by decide, noU8_D _ _ _ _ _⟩
  · rw [hm] at hb
    cases hb
/-- the answers of an opening, of either end -/
theorem OpenP.both {w w' : World} {A : Nat → Prop} {p mb : Nat} {o : Opened} {d0 : Dk} {e : Ending} (h : OpenP w A p mb o e w') (hd : IsDisk w A p mb d0) (hno : o.err ≠ 0 → o.snap = [] ∧ o.rows = []) : ∃ (lp : Option Addr) (ax : Option Addr) (nx cx : Nat) (al : Option Addr) (nl cl : Nat), e = .returned (.tuple #[.pointer lp, .slice ax nx cx, .slice al nl cl, .int .u16 (o.err : Int)]) ∧ (lp = none ↔ o.err ≠ 0) ∧ IsDisk w' A p mb o.d ∧ BytesV w' (fun k => w.heap.size ≤ k) (.slice ax nx cx) o.snap ∧ RowsR w' w.heap.size (.slice al nl cl) o.rows ∧ Kp [p, mb] w.heap.size w w' := by
  by_cases ho : o.err = 0
  · obtain ⟨lb, vx, vl, rfl, -, h2, h3, h4, -, h6⟩ := h.ok ho
    obtain ⟨ax, cx, rfl, -, -, -⟩ := id h3
    obtain ⟨al, cl, rfl, -, -⟩ := h4.shape
    exact ⟨_, _, _, _, _, _, _, by rw [ho]; rfl, by simp [ho], h2.widen (fun _ h => h.1) hd.apart.2, h3.mono (Nat.le_refl _) (fun k hk hl => ⟨hk.1, rfl⟩), h4, h6⟩
  · obtain ⟨rfl, h2, h3⟩ := h.no ho
    obtain ⟨n1, n2⟩ := hno ho
    exact ⟨_, _, _, _, _, _, _, rfl, by simp [ho], h2, by rw [n1]; exact BytesV.nil _ _, by rw [n2]; exact RowsR.nil _ _, h3⟩
theorem openD_err (d : Dk) : (d.openD.err = 0 ∨ d.openD.err = 22 ∨ d.openD.err = 23) ∧ (d.openD.err ≠ 0 → d.openD.snap = [] ∧ d.openD.rows = []) := by
  unfold Dk.openD
  split
  · simp
  · split
    · simp
    · split
      · split <;> simp
      · simp
theorem setB {w : World} {g : Nat} {x0 x1 x2 x3 x4 x5 x6 x7 x8 : Value} {T : TypeId} (h : w.heap[g]? = some (.cells #[x0, x1, x2, x3, x4, x5, x6, x7, x8] T)) (v1 v2 v3 v4 v5 v6 v7 v8 : Value) :
    ((((((((w.setCell ⟨g, 1, none⟩ v1).setCell ⟨g, 2, none⟩ v2).setCell ⟨g, 3, none⟩ v3).setCell ⟨g, 4, none⟩ v4).setCell ⟨g, 5, none⟩ v5).setCell ⟨g, 6, none⟩ v6).setCell ⟨g, 7, none⟩ v7).setCell ⟨g, 8, none⟩ v8).heap[g]? = some (.cells #[x0, v1, v2, v3, v4, v5, v6, v7, v8] T) := by
  simp [World.setCell, Array.getElem?_modify, h]
theorem setB_kp (w : World) (g : Nat) (v1 v2 v3 v4 v5 v6 v7 v8 : Value) : Kp [g] w.heap.size w ((((((((w.setCell ⟨g, 1, none⟩ v1).setCell ⟨g, 2, none⟩ v2).setCell ⟨g, 3, none⟩ v3).setCell ⟨g, 4, none⟩ v4).setCell ⟨g, 5, none⟩ v5).setCell ⟨g, 6, none⟩ v6).setCell ⟨g, 7, none⟩ v7).setCell ⟨g, 8, none⟩ v8) :=
  ((((((((Kp.refl [g] w.heap.size w).setCell (b := g) (.inr (by simp)) 1 none v1).setCell (b := g) (.inr (by simp)) 2 none v2).setCell (b := g) (.inr (by simp)) 3 none v3).setCell (b := g) (.inr (by simp)) 4 none v4).setCell (b := g) (.inr (by simp)) 5 none v5).setCell (b := g) (.inr (by simp)) 6 none v6).setCell (b := g) (.inr (by simp)) 7 none v7).setCell (b := g) (.inr (by simp)) 8 none v8
set_option maxHeartbeats 8000000 in
set_option maxRecDepth 100000 in
/-- both opened: the same answers -/
theorem lbopen {A : Nat → Prop} {gb p mb : Nat} {lp0 : Option Addr} (d : Dk) (q : Nat) (br : Bool) (w : World) (h : Both w A gb p mb (.pointer lp0) d q br) (hA : ∀ k, w.heap.size ≤ k → A k) (hr : d.room ≤ 900000) :
    Calls Tryz.prog 8 #[.pointer (some ⟨gb, 0, none⟩)] w fun e w' => e = .returned (.bool true) ∧ (∃ lp : Option Addr, (lp = none ↔ d.openD.err ≠ 0) ∧ Both w' A gb p mb (.pointer lp) d.openD.d d.openD.seq (decide (d.openD.err ≠ 0))) ∧ Kp [gb, p, mb] w.heap.size w w' := by
  obtain ⟨hd, ⟨ao, n, cap, left, hb, ht⟩, ha1, ha2, ha3⟩ := h
  have HD := Lib.hid hd
  have HB := Lib.hid hb
  have HT := Lib.hid ht
  have hgb : gb < w.heap.size := (Array.getElem?_eq_some_iff.1 hb).1
  obtain ⟨b0, b1, b2, b3, b4, b5, b6, b7, b8⟩ := boxB hb
  clear hd hb ht
  go_enter Tryz.func8, Tryz.ntmps8
  go_wp2_with fail
  refine (wOpen w HD.out hA).mono ?_
  rintro e w1 h1
  obtain ⟨lp, ax, nx, cx, al, nl, cl, rfl, hlp, hd1, hx1, hr1, k1⟩ := h1.both HD.out (openD_err d).2
  have HB1 := Lib.hid ((k1.block gb hgb (by simp [ha2, ha3])).trans HB.out)
  have HT1 := Lib.hid (HT.out.shy HD.out.shy k1)
  have HD1 := Lib.hid hd1
  have HX1 := Lib.hid hx1
  have HR1 := Lib.hid hr1
  have HLP := Lib.hid hlp
  have K1 := Lib.hid k1
  have hgb1 : gb < w1.heap.size := Nat.lt_of_lt_of_le hgb k1.size
  clear h1 hd1 hx1 hr1 k1 b0 b1 b2 b3 b4 b5 b6 b7 b8 hlp
  obtain ⟨b0, b1, b2, b3, b4, b5, b6, b7, b8⟩ := boxB HB1.out
  go_wp2_with fail
  refine (r14Open d _ w1 HT1.out hr).mono ?_
  rintro e w2 ⟨vt, vx, vl, rfl, ht2, hx2, ⟨base, hbase, hr2⟩, k2⟩
  obtain ⟨ao2, n2, cap2, left2, rfl, ht3, hq2⟩ := ht2
  obtain ⟨ox, cx2, rfl, -, -, -⟩ := id hx2
  obtain ⟨ol, cl2, rfl, -, -⟩ := hr2.shape
  obtain ⟨D, hD⟩ : ∃ D, D = d.openD.d := ⟨_, rfl⟩
  obtain ⟨E, hE⟩ : ∃ E, E = d.openD.err := ⟨_, rfl⟩
  obtain ⟨Q, hQ⟩ : ∃ Q, Q = d.openD.seq := ⟨_, rfl⟩
  obtain ⟨sn, hsn⟩ : ∃ sn, sn = d.openD.snap := ⟨_, rfl⟩
  obtain ⟨rw_, hrw⟩ : ∃ rw_, rw_ = d.openD.rows := ⟨_, rfl⟩
  have hE3 : E = 0 ∨ E = 22 ∨ E = 23 := by rw [hE]; exact (openD_err d).1
  rw [← hD] at ht3 HD1
  rw [← hE] at HLP
  rw [← hD, ← hE, ← hQ]
  rw [← hsn] at hx2 HX1 ⊢
  rw [← hrw] at hr2 HR1 ⊢
  have HDE : Hid (D = d.openD.d ∧ E = d.openD.err ∧ Q = d.openD.seq) := ⟨hD, hE, hQ⟩
  have HH2 := Lib.hid ht3
  have HX2 := Lib.hid hx2
  have HR2 := Lib.hid hr2
  have K2 := Lib.hid k2
  have HB2 := Lib.hid ((k2.block gb hgb1 (by simp)).trans HB1.out)
  have hgb2 : gb < w2.heap.size := Nat.lt_of_lt_of_le hgb1 k2.size
  clear ht3 hx2 hr2 k2 hD hE hQ hsn hrw b0 b1 b2 b3 b4 b5 b6 b7 b8 hq2
  obtain ⟨be, hbe⟩ : ∃ be, be = decide (E ≠ 0) := ⟨_, rfl⟩
  rw [← hbe]
  have HBE := Lib.hid hbe
  clear hbe
  go_upto_region 3 with fail
  obtain ⟨W3, hW3⟩ : ∃ W3, W3 = w2.alloc (.cells #[.slice ao2 n2 cap2, .int .i64 (D.room : Int), .bool D.fuse.isSome, .int .i64 left2, .bool D.dead, .int .u64 (Q : Int), .bool be] 35) := ⟨_, rfl⟩
  have hk3 : Kp [] w2.heap.size w2 W3 := by rw [hW3]; exact kp1 _ _
  have ht7 : W3.heap[w2.heap.size]? = some (.cells #[.slice ao2 n2 cap2, .int .i64 (D.room : Int), .bool D.fuse.isSome, .int .i64 left2, .bool D.dead, .int .u64 (Q : Int), .bool be] 35 (0, 0)) := by rw [hW3]; exact World.alloc_heap_new w2 _
  have hb3 := (hk3.block gb hgb2 (by simp)).trans HB2.out
  rw [← hW3]
  have hg3 : gb < W3.heap.size := Nat.lt_of_lt_of_le hgb2 hk3.size
  have hgne : gb ≠ w2.heap.size := by omega
  clear hW3
  have HB3 := Lib.hid hb3
  have K3 := Lib.hid hk3
  have ht7' : ∀ v, (W3.setCell ⟨gb, 1, none⟩ v).heap[w2.heap.size]? = some (.cells #[.slice ao2 n2 cap2, .int .i64 (D.room : Int), .bool D.fuse.isSome, .int .i64 left2, .bool D.dead, .int .u64 (Q : Int), .bool be] 35 (0, 0)) := fun v => (Below.heap_setCell _ _ _ _ (by show w2.heap.size ≠ gb; omega)).trans ht7
  have HT7 := Lib.hid ht7'
  obtain ⟨b0, b1, b2, b3, b4, b5, b6, b7, b8⟩ := boxB hb3
  have f1 : W3.frozen? ⟨gb, 1, none⟩ = false := Lib.frozen_of_heap hb3 1
  have f2 : W3.frozen? ⟨gb, 2, none⟩ = false := Lib.frozen_of_heap hb3 2
  have f3 : W3.frozen? ⟨gb, 3, none⟩ = false := Lib.frozen_of_heap hb3 3
  have f4 : W3.frozen? ⟨gb, 4, none⟩ = false := Lib.frozen_of_heap hb3 4
  have f5 : W3.frozen? ⟨gb, 5, none⟩ = false := Lib.frozen_of_heap hb3 5
  have f6 : W3.frozen? ⟨gb, 6, none⟩ = false := Lib.frozen_of_heap hb3 6
  have f7 : W3.frozen? ⟨gb, 7, none⟩ = false := Lib.frozen_of_heap hb3 7
  have f8 : W3.frozen? ⟨gb, 8, none⟩ = false := Lib.frozen_of_heap hb3 8
  clear hb3 hk3 ht7 ht7'
  go_upto_region 5 with (refine wpList_ld14 rfl _ rfl _ _ rfl (HT7.out _) rfl ?_)
  have hb4 := setB HB3.out (.pointer lp) (.slice ao2 n2 cap2) (.int .i64 (D.room : Int)) (.bool D.fuse.isSome) (.int .i64 left2) (.bool D.dead) (.int .u64 (Q : Int)) (.bool be)
  have k4 := setB_kp W3 gb (.pointer lp) (.slice ao2 n2 cap2) (.int .i64 (D.room : Int)) (.bool D.fuse.isSome) (.int .i64 left2) (.bool D.dead) (.int .u64 (Q : Int)) (.bool be)
  obtain ⟨W4, hW4⟩ : ∃ W4, W4 = ((((((((W3.setCell ⟨gb, 1, none⟩ (.pointer lp)).setCell ⟨gb, 2, none⟩ (.slice ao2 n2 cap2)).setCell ⟨gb, 3, none⟩ (.int .i64 (D.room : Int))).setCell ⟨gb, 4, none⟩ (.bool D.fuse.isSome)).setCell ⟨gb, 5, none⟩ (.int .i64 left2)).setCell ⟨gb, 6, none⟩ (.bool D.dead)).setCell ⟨gb, 7, none⟩ (.int .u64 (Q : Int))).setCell ⟨gb, 8, none⟩ (.bool be)) := ⟨_, rfl⟩
  rw [← hW4] at hb4 k4 ⊢
  clear hW4
  have hsh : ∀ r ∈ [gb], Shy W3 r := by
    intro r hr cs T fr hb
    obtain rfl : r = gb := by simpa using hr
    rw [HB3.out] at hb
    injection hb with hb
    injection hb with h1 h2 _
    subst h1 h2
    exact ⟨by decide, noU8_B _ _ _ _ _ _ _ _ _ _ _⟩
  have hgw : ∀ k ∈ [gb], ¬ w.heap.size ≤ k := by intro k hk; have hkg : k = gb := (by simpa using hk); omega
  have HD4 := Lib.hid (((HD1.out.kp_ge K2.out).kp_ge K3.out).kp k4 (Nat.le_refl _) (by intro k hk; have hkg : k = gb := (by simpa using hk); rw [hkg]; exact ⟨ha1, ha2, ha3⟩))
  have HT4 := Lib.hid ((HH2.out.kp K3.out).shy hsh k4)
  have hA4 := ((HX1.out.kp K2.out (by simp)).kp K3.out (by simp)).kp k4 hgw
  have hB4 := (HX2.out.kp K3.out (by simp)).shy hsh k4
  have cvA := conv_bytes hA4
  have cvB := conv_bytes hB4
  have hR4 := ((HR1.out.kpL K2.out (by simp)).kpL K3.out (by simp)).kpL k4 (by simpa using hgb)
  have hS4 := (HR2.out.kp K3.out).shun HB3.out (noU8_B _ _ _ _ _ _ _ _ _ _ _) (by omega) k4
  obtain ⟨rl, hrl⟩ : ∃ rl, rl = rw_.length := ⟨_, rfl⟩
  have hnl : nl = rl := by
    obtain ⟨a9, c9, e9, _, _⟩ := hR4.shape
    injection e9 with _ e9 _
    rw [hrl]; exact e9
  have hrl63 : rl ≤ 9223372036854775807 := by
    obtain ⟨a9, c9, e9, h1, h2⟩ := hR4.shape
    unfold maxLen at h2
    omega
  have HRL := Lib.hid hrl
  have HRR1 := Lib.hid (RdRows.of_own hR4)
  have HRR2 := Lib.hid (RdRows.of_A hS4)
  subst hnl
  rw [← hrl] at HRR2 ⊢
  obtain ⟨Z, hZ⟩ : ∃ Z : ByteArray, Z = ⟨sn.toArray⟩ := ⟨_, rfl⟩
  rw [← hZ] at cvA cvB
  obtain ⟨sl, hsl⟩ : ∃ sl, sl = sn.length := ⟨_, rfl⟩
  rw [← hsl] at cvB ⊢
  have HB4 := Lib.hid hb4
  have K4 := Lib.hid k4
  have KA : Hid (Kp [gb, p, mb] w.heap.size w W4) := ((K1.out.mono (by simp) (Nat.le_refl _)).trans ((K2.out.mono (by simp) K1.out.size).trans (K3.out.mono (by simp) (Nat.le_trans K1.out.size K2.out.size)))).trans (k4.mono (by simp) (Nat.le_trans K1.out.size (Nat.le_trans K2.out.size K3.out.size)))
  clear hA4 hB4 hR4 hS4 hrl hZ hsl hb4 k4 b0 b1 b2 b3 b4 b5 b6 b7 b8 f1 f2 f3 f4 f5 f6 f7 f8 hsh
  have HFIN : Hid (∀ w5, Kp [] W4.heap.size W4 w5 → Both w5 A gb p mb (.pointer lp) D Q be) := fun w5 k5 =>
    ⟨HD4.out.kp_ge k5, ⟨ao2, n2, cap2, left2, (k5.block gb (Array.getElem?_eq_some_iff.1 HB4.out).1 (by simp)).trans HB4.out, HT4.out.kp k5⟩, ha1, ha2, ha3⟩
  cases lp with
  | none =>
    have hE0 : E ≠ 0 := HLP.out.1 rfl
    have c1 : ((E : Int) == 0) = false := by simp; omega
    have c2 : decide ((E : Int) = 0) = false := decide_eq_false (by omega)
    go_wp2_with fail
    refine (lsame _ _ rw_ W4 HRR1.out HRR2.out (by rw [← HRL.out]; exact hrl63)).mono ?_
    rintro e w5 ⟨rfl, k5⟩
    have K5 := Lib.hid k5
    clear k5
    go_wp2_with fail
    go_ret
    obtain ⟨q1, q2, q3⟩ := HDE.out
    rw [← q1, ← q2, ← q3, ← HBE.out]
    exact ⟨rfl, ⟨none, ⟨fun _ => hE0, fun _ => rfl⟩, HFIN.out _ K5.out⟩, KA.out.trans (K5.out.mono (by simp) KA.out.size)⟩
  | some a =>
    have hE0 : E = 0 := by
      by_cases h : E = 0
      · exact h
      · have := HLP.out.2 h; cases this
    have c1 : ((E : Int) == 0) = true := by simp; omega
    have c2 : decide ((E : Int) = 0) = true := decide_eq_true (by omega)
    have HE0 := Lib.hid hE0
    clear hE0
    go_wp2_with fail
    refine (lsame _ _ rw_ W4 HRR1.out HRR2.out (by rw [← HRL.out]; exact hrl63)).mono ?_
    rintro e w5 ⟨rfl, k5⟩
    have K5 := Lib.hid k5
    clear k5
    go_wp2_with fail
    go_ret
    obtain ⟨q1, q2, q3⟩ := HDE.out
    rw [← q1, ← q2, ← q3, ← HBE.out]
    exact ⟨rfl, ⟨some a, ⟨(fun h => by cases h), fun h => absurd HE0.out h⟩, HFIN.out _ K5.out⟩, KA.out.trans (K5.out.mono (by simp) KA.out.size)⟩
end Go.Proofs.YtdabflkejhoghaaGreat.Hand
