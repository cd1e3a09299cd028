/- The reference's log: Open. -/
import Derived.Below
import Derived.Deep.Draws
import Derived.Deep.AppendLies
import Derived.Maps.AppendAt
import Derived.OwnWalk
import Derived.Laws.BytesArg
import Derived.Laws.MakeOwn
import Derived.Laws.OwnMore
import Derived.Deep.OwnRows
import Derived.Tactics
import Derived.Lib.ConvBytes
import Derived.Laws.Slices
import Derived.WalkKit
import Derived.KernelRfl
import Derived.RowKit3
import Derived.Deep.LoopGhost
import Derived.Deep.QuietTactic
import Derived.BigQuiet
import Derived.WideLaws
import Derived.Deep.DeepCutAuto
import Derived.Deep.CutBlock
import Derived.Deep.RegionHeld3
import Derived.Laws.Rows
import Derived.Lib.AppendStr
import Derived.ArgAppend
import Derived.Laws.IdiomCopy
import Derived.OrdersHeld
import Derived.Laws.BitsLemmas
import Derived.RowKit
import Derived.Outline
import Derived.Maps.Own
import Derived.Maps.OwnOps
import Derived.Maps.OwnSet
import Derived.Maps.Views
import Derived.Maps.RangeWalk
import Derived.Maps.Ext
import Derived.RangeFuncOwn
import Derived.OneCell
import Derived.Deep.DeepMust
import Derived.Lib.Hide
import Derived.StillTailTactics
import Derived.Laws.AppendOwnNone
import Derived.WalkMore
import Derived.Lib.SlBytesConst
import Derived.WalkLawsBesides
import Derived.Laws.BitsAllLaws
import Derived.Test.YtdabflkejhoghaaGreatWLast
import Derived.Test.YtdabflkejhoghaaGreatHWa
import Derived.Test.YtdabflkejhoghaaGreatHSe
import Derived.Test.YtdabflkejhoghaaGreatHQf
namespace Go.Proofs.YtdabflkejhoghaaGreat.Hand
open Go Go.RowKit Go.Maps Go.WideMaps Go.Proofs.YtdabflkejhoghaaGreat.HW Go.Proofs.YtdabflkejhoghaaGreatW.PrintLast
set_option linter.unusedVariables false
set_option linter.unusedSimpArgs false
theorem infoT14 : (Tryz.prog.info? 35).map (·.size) = some 7 := by kernel_rfl
/-- a log of the reference's: its disk, its number, is it broken? -/
def IsT14 (w : World) (v : Value) (d : Dk) (q : Nat) (br : Bool) : Prop := ∃ (ao : Option Addr) (n cap : Nat) (left : Int), v = .agg #[.slice ao n cap, .int .i64 (d.room : Int), .bool d.fuse.isSome, .int .i64 left, .bool d.dead, .int .u64 (q : Int), .bool br] ∧ IsT w (.agg #[.slice ao n cap, .int .i64 (d.room : Int), .bool d.fuse.isSome, .int .i64 left, .bool d.dead]) d ∧ q < 18446744073709551616
theorem wpList_ld14 {w : World} {ops : Array Oper} {rest : List Oper} {o : Oper} {a : Act} {Q : Exit → Act → World → Prop} (hgd : o.guard = none) (x : Operand) (ho : o.op = .load 35 x) (g : Nat) (cs : Array Value)
    (hx : a.eval x = .pointer (some ⟨g, 0, none⟩)) (hg : w.heap[g]? = some (.cells cs 35 (0, 0))) (hc : cs.size = 7) (h : wpList Tryz.prog ops Q rest (a.put o.dst (.agg cs)) w) : wpList Tryz.prog ops Q (o :: rest) a w :=
  wpList_load_row hgd 35 x ho g hx 35 cs (0, 0) _ hg Tryz.underlying35 rfl (by rw [infoT14, hc]) h
theorem wpList_st14 {w : World} {ops : Array Oper} {rest : List Oper} {o : Oper} {a : Act} {Q : Exit → Act → World → Prop} (hgd : o.guard = none) (x y : Operand) (ho : o.op = .store 35 x y) (g : Nat) (v0 v1 v2 v3 v4 v5 v6 : Value) (old : Array Value)
    (hx : a.eval x = .pointer (some ⟨g, 0, none⟩)) (hy : a.eval y = .agg #[v0, v1, v2, v3, v4, v5, v6]) (hg : w.heap[g]? = some (.cells old 35 (0, 0))) (ho5 : old.size = 7) (h1 : v0.oneCell' = true ∧ v1.oneCell' = true ∧ v2.oneCell' = true ∧ v3.oneCell' = true ∧ v4.oneCell' = true ∧ v5.oneCell' = true ∧ v6.oneCell' = true)
    (h : ∀ w', w'.heap[g]? = some (.cells #[v0, v1, v2, v3, v4, v5, v6] 35 (0, 0)) → Kp [g] w.heap.size w w' → w'.heap.size = w.heap.size → wpList Tryz.prog ops Q rest (a.put o.dst undef) w') : wpList Tryz.prog ops Q (o :: rest) a w :=
  wpList_store_row hgd 35 x y ho g #[v0, v1, v2, v3, v4, v5, v6] hx hy 35 old hg infoT14 (by rw [ho5]; rfl) (by simp [h1]) (h _ (setRow_at hg _) (setRow_kp w g _).1 (setRow_kp w g _).2)
def zero14 : Array Value := #[.slice none 0 0, .int .i64 0, .bool false, .int .i64 0, .bool false, .int .u64 0, .bool false]
theorem noU8_0 : NoU8 #[.slice none 0 0, .int .i64 0, .bool false, .int .i64 0, .bool false, .int .u64 0, .bool false] := noU8_of (by
  intro u hu
  simp only [List.mem_cons, List.not_mem_nil, or_false] at hu
  rcases hu with rfl | rfl | rfl | rfl | rfl | rfl | rfl <;> simp)
/-- the disk's box, the box of the log that is answered -/
structure BoxesL (w w3 : World) (x0 x1 x2 x3 x4 : Value) : Prop where
  kp : Kp [] w.heap.size w w3
  size : w.heap.size + 2 ≤ w3.heap.size
  box : w3.heap[w.heap.size]? = some (.cells #[x0, x1, x2, x3, x4] 31 (0, 0))
  ans : w3.heap[w.heap.size + 1]? = some (.cells #[.slice none 0 0, .int .i64 0, .bool false, .int .i64 0, .bool false, .int .u64 0, .bool false] 35 (0, 0))
theorem BoxesL.new (w : World) (x0 x1 x2 x3 x4 : Value) : BoxesL w ((w.alloc (.cells #[x0, x1, x2, x3, x4] 31)).alloc (.cells #[.slice none 0 0, .int .i64 0, .bool false, .int .i64 0, .bool false, .int .u64 0, .bool false] 35)) x0 x1 x2 x3 x4 :=
  ⟨kp2 _ _ _, by simp, (Below.heap_alloc _ _ _ (by simp)).trans (World.alloc_heap_new w _), new_at _ _ _ (by simp)⟩
theorem BoxesL.next {w w3 w4 : World} {x0 x1 x2 x3 x4 : Value} (h : BoxesL w w3 x0 x1 x2 x3 x4) (k : Kp [] w3.heap.size w3 w4) : BoxesL w w4 x0 x1 x2 x3 x4 :=
  ⟨h.kp.trans (k.mono (by simp) (by have := h.size; omega)), Nat.le_trans h.size k.size, (k.block _ (by have := h.size; omega) (by simp)).trans h.box, (k.block _ (by have := h.size; omega) (by simp)).trans h.ans⟩
theorem BoxesL.put {w w3 w4 : World} {x0 x1 x2 x3 x4 y0 y1 y2 y3 y4 : Value} (h : BoxesL w w3 x0 x1 x2 x3 x4) (k : Kp [w.heap.size] w3.heap.size w3 w4) (hb : w4.heap[w.heap.size]? = some (.cells #[y0, y1, y2, y3, y4] 31 (0, 0))) : BoxesL w w4 y0 y1 y2 y3 y4 :=
  ⟨h.kp.trans (k.shed (B' := w.heap.size) (by simp) (by have := h.size; omega)), Nat.le_trans h.size k.size, hb, (k.block _ (by have := h.size; omega) (by simp)).trans h.ans⟩
theorem RowsA.shun {w w' : World} {base r : Nat} {v : Value} {L : List (List UInt8)} {cs : Array Value} {T : TypeId} {fr : Nat × Nat} (h : RowsA w base v L) (hr : w.heap[r]? = some (.cells cs T fr)) (hcs : NoU8 cs) (hb : r < base) (hk : Kp [r] w.heap.size w w') : RowsA w' base v L := by
  obtain ⟨hs, h1, h2, h3⟩ := h
  exact ⟨hs, h1, own_kpL h2 hk (by simpa using hb), fun x hx => (h3 x hx).shun hr hcs hk⟩
set_option maxHeartbeats 8000000 in
set_option maxRecDepth 100000 in
/-- the reference's Open -/
theorem r14Open (d : Dk) (v : Value) (w : World) (h : IsT w v d) (hr : d.room ≤ 900000) :
    Calls Tryz.prog 17 #[v] w fun e w' => ∃ vt vx vl, e = .returned (.tuple #[vt, vx, vl, .int .i64 (d.openD.err : Int)]) ∧ IsT14 w' vt d.openD.d d.openD.seq (decide (d.openD.err ≠ 0)) ∧ BytesV w' (fun _ => True) vx d.openD.snap ∧ (∃ base, w.heap.size ≤ base ∧ RowsA w' base vl d.openD.rows) ∧ Kp [] w.heap.size w w' := by
  have HH := Lib.hid h
  have hlen : (d.old sLog).b.length ≤ 900000 := by
    have hok : d.Ok := by obtain ⟨_, _, _, _, _, _, _, h⟩ := h; exact h
    unfold Dk.old
    cases hl : d.look sLog with
    | none => simp
    | some f => exact Nat.le_trans (used_mem (Dk.look_mem hl).1) (Nat.le_trans hok.used hr)
  obtain ⟨ao, m, cap, left, rfl, -⟩ := h.form
  obtain ⟨bl, hbl⟩ : ∃ bl, bl = (d.old sLog).b.length := ⟨_, rfl⟩
  rw [← hbl] at hlen
  have HBL := Lib.hid hbl
  clear h hbl
  go_enter Tryz.func17, Tryz.ntmps17
  have B2 := Lib.hid (BoxesL.new w (.slice ao m cap) (.int .i64 (d.room : Int)) (.bool d.fuse.isSome) (.int .i64 left) (.bool d.dead))
  go_upto_region 1 with fail
  obtain ⟨W2, hW2⟩ : ∃ W2, W2 = (w.alloc (.cells #[.slice ao m cap, .int .i64 (d.room : Int), .bool d.fuse.isSome, .int .i64 left, .bool d.dead] 31)).alloc (.cells #[.slice none 0 0, .int .i64 0, .bool false, .int .i64 0, .bool false, .int .u64 0, .bool false] 35) := ⟨_, rfl⟩
  rw [← hW2] at B2 ⊢
  clear hW2
  have HH2 := Lib.hid (HH.out.kp B2.out.kp)
  obtain ⟨-, -, -, -, e4⟩ := boxT B2.out.box
  cases hdd : d.dead with
  | true =>
    have HOP : Hid (d.openD = ⟨d, 22, [], [], 0⟩) := by show _ = _; unfold Dk.openD; rw [if_pos hdd]
    rw [hdd] at e4
    clear hdd
    go_wp2_with (first | (refine wpList_ldT rfl _ rfl _ _ rfl B2.out.box rfl ?_) | (refine wpList_st14 rfl _ _ rfl _ _ _ _ _ _ _ _ _ rfl rfl B2.out.ans rfl ⟨rfl, rfl, rfl, rfl, rfl, rfl, rfl⟩ ?_; intro w9 hg9 k9 z9))
    have K9 := B2.out.kp.trans (k9.shed (B' := w.heap.size) (by simp) (by have := B2.out.size; omega))
    have T9 := HH2.out.shun B2.out.ans (by decide) noU8_0 k9
    (try simp only [Exit.inBlock, Exit.then])
    refine bodyPost_ret (results_list (rs := [.cell 2 35, .tmp 3, .tmp 4, .tmp 5]) rfl (by simp) (.cell (w.heap.size + 1) 35 _ (0, 0) _ rfl hg9 Tryz.underlying35 rfl infoT14 (.tmp (.tmp (.tmp .nil))))) rfl ?_
    have e := HOP.out
    rw [e]
    exact ⟨_, _, _, rfl, ⟨_, _, _, _, rfl, T9, Nat.zero_lt_succ _⟩, BytesV.nil _ _, ⟨w.heap.size, Nat.le_refl _, RowsA.nil _ _⟩, K9⟩
  | false =>
    rw [hdd] at e4
    have HDD := Lib.hid hdd
    clear hdd
    go_wp2_with (refine wpList_ldT rfl _ rfl _ _ rfl B2.out.box rfl ?_)
    refine (r14state d _ W2 HH2.out hr).mono ?_
    rintro e w3 ⟨vx, q, rfl, hq, hst, k3⟩
    have B3 := Lib.hid (B2.out.next k3)
    have HH3 := Lib.hid (HH2.out.kp k3)
    have HST := Lib.hid hst
    clear k3 hst B2 HH2 e4
    cases hs : d.stateD with
    | none =>
      have HOP : Hid (d.openD = ⟨d, 23, [], [], 0⟩) := by show _ = _; unfold Dk.openD; rw [if_neg (by rw [HDD.out]; simp), hs]
      rw [show (none : Option (List UInt8 × Nat)).isSome = false from rfl]
      clear hs
      go_wp2_with (first | (refine wpList_ldT rfl _ rfl _ _ rfl B3.out.box rfl ?_) | (refine wpList_st14 rfl _ _ rfl _ _ _ _ _ _ _ _ _ rfl rfl B3.out.ans rfl ⟨rfl, rfl, rfl, rfl, rfl, rfl, rfl⟩ ?_; intro w9 hg9 k9 z9))
      have K9 := B3.out.kp.trans (k9.shed (B' := w.heap.size) (by simp) (by have := B3.out.size; omega))
      have T9 := HH3.out.shun B3.out.ans (by decide) noU8_0 k9
      (try simp only [Exit.inBlock, Exit.then])
      refine bodyPost_ret (results_list (rs := [.cell 2 35, .tmp 3, .tmp 4, .tmp 5]) rfl (by simp) (.cell (w.heap.size + 1) 35 _ (0, 0) _ rfl hg9 Tryz.underlying35 rfl infoT14 (.tmp (.tmp (.tmp .nil))))) rfl ?_
      have e := HOP.out
      rw [e]
      exact ⟨_, _, _, rfl, ⟨_, _, _, _, rfl, T9, Nat.zero_lt_succ _⟩, BytesV.nil _ _, ⟨w.heap.size, Nat.le_refl _, RowsA.nil _ _⟩, K9⟩
    | some p =>
      obtain ⟨x, sq⟩ := p
      rw [show (some (x, sq) : Option (List UInt8 × Nat)).isSome = true from rfl]
      obtain ⟨hqs, hvx⟩ := HST.out x sq hs
      subst hqs
      have HS := Lib.hid hs
      have HX3 := Lib.hid hvx
      clear hs hvx HST
      go_wp2_with (refine wpList_ldT rfl _ rfl _ _ rfl B3.out.box rfl ?_)
      refine (rRead d _ sLog w3 HH3.out).mono ?_
      rintro e w4 ⟨vb, rfl, hb4, k4⟩
      obtain ⟨ob, cb, rfl, hcb, -, -⟩ := id hb4
      have B4 := Lib.hid (B3.out.next k4)
      have HH4 := Lib.hid (HH3.out.kp k4)
      have HX4 := Lib.hid (HX3.out.kp k4 (by simp))
      rw [← HBL.out] at hb4 hcb ⊢
      have HB4 := Lib.hid hb4
      clear k4 hb4 B3 HH3 HX3
      go_wp2_with fail
      refine (r14behind _ _ q w4 HB4.out (by rw [← HBL.out]; omega) hq).mono ?_
      rintro e w5 ⟨p, rfl, hp, hbe, k5⟩
      rw [← HBL.out] at hp
      have B5 := Lib.hid (B4.out.next k5)
      have HH5 := Lib.hid (HH4.out.kp k5)
      have HX5 := Lib.hid (HX4.out.kp k5 (by simp))
      have HB5 := Lib.hid (HB4.out.kp k5 (by simp))
      have HBE := Lib.hid hbe
      clear k5 hbe B4 HH4 HX4 HB4
      have HV := Lib.hid (HB5.out.behind (k := p) (by rw [← HBL.out]; exact hp))
      obtain ⟨sq, hsq⟩ : ∃ sq, sq = wrapN (q + 1) := ⟨_, rfl⟩
      have hsqI : IntKind.u64.wrap ((q : Int) + 1) = (sq : Int) := by rw [hsq, IntKind.wrap_u64]; unfold wrapN; omega
      have hsq64 : sq < 18446744073709551616 := by rw [hsq]; exact wrapN_lt _
      have HSQ := Lib.hid hsq
      obtain ⟨R, hR⟩ : ∃ R, R = (d.old sLog).b.drop p := ⟨_, rfl⟩
      have hRl : R.length = bl - p := by rw [hR, List.length_drop, HBL.out]
      rw [← hR] at HBE HV
      have HR := Lib.hid hR
      obtain ⟨rows, nn, hall⟩ : ∃ rows nn, allB R sq = (rows, nn) := ⟨_, _, rfl⟩
      have hle := allB_le R.length R sq (Nat.le_refl _)
      rw [hall] at hle
      obtain ⟨hle1, hle2⟩ := hle
      simp only at hle1 hle2
      have hnn : p + nn ≤ bl := by omega
      have hrl : rows.length ≤ nn := by omega
      obtain ⟨nl, hnl⟩ : ∃ nl, nl = rows.length := ⟨_, rfl⟩
      have hnl2 : nl ≤ nn := by omega
      have HALL := Lib.hid hall
      have HRL := Lib.hid hRl
      have HNL := Lib.hid hnl
      clear hsq hR hall hle1 hle2 hRl hrl hnl
      obtain ⟨WQ, hWQ⟩ : ∃ WQ, WQ = wrapN (q + nl) := ⟨_, rfl⟩
      have hWI : IntKind.u64.wrap ((q : Int) + (nl : Int)) = (WQ : Int) := by rw [hWQ, IntKind.wrap_u64]; unfold wrapN; omega
      have HWI := Lib.hid hWI
      have HWL : Hid (WQ < 18446744073709551616) := by rw [hWQ]; exact wrapN_lt _
      have HOPN : Hid (¬ p + nn < bl → d.openD = ⟨d, 0, x, rows, WQ⟩) := fun hc => by
        unfold Dk.openD
        rw [if_neg (by rw [HDD.out]; simp), HS.out]
        simp only
        rw [HBE.out, ← HSQ.out, HALL.out]
        simp only
        rw [if_neg (by rw [HRL.out]; omega), ← HNL.out, ← hWQ]
      have HOPC : Hid (p + nn < bl → d.openD = if (d.cutD R nn).2 = true then ⟨(d.cutD R nn).1, 0, x, rows, WQ⟩ else ⟨(d.cutD R nn).1, 22, [], [], 0⟩) := fun hc => by
        unfold Dk.openD
        rw [if_neg (by rw [HDD.out]; simp), HS.out]
        simp only
        rw [HBE.out, ← HSQ.out, HALL.out]
        simp only
        rw [if_pos (by rw [HRL.out]; omega), ← HNL.out, ← hWQ]
      clear hWQ hWI
      go_upto_region 8 with fail
      go_cut [12, 13] (fun l n wx => ∃ (ol : Option Addr) (cl : Nat), l = .slice ol nl cl ∧ n = .int .i64 (nn : Int) ∧ Hid (RowsA wx w5.heap.size (.slice ol nl cl) rows ∧ Kp [] w5.heap.size w5 wx))
      case first =>
        by_cases hca : cb = p
        · rw [if_pos hca] at HV
          subst hca
          rw [show bl - cb = 0 by omega] at HV
          go_wp2_with fail
          refine (r13All _ R sq w5 HV.out (by rw [HRL.out]; omega) hsq64).mono ?_
          rintro e w6 ⟨vf, rfl, hf6, k6⟩
          rw [HALL.out] at hf6 ⊢
          obtain ⟨of6, cf6, rfl, -, -⟩ := hf6.shape
          rw [← HNL.out] at hf6 ⊢
          have HF6 := Lib.hid hf6
          have K6 := Lib.hid k6
          clear hf6 k6
          go_wp2
          go_meet
          exact ⟨of6, cf6, rfl, rfl, HF6.out, K6.out⟩
        · rw [if_neg hca] at HV
          go_wp2_with fail
          refine (r13All _ R sq w5 HV.out (by rw [HRL.out]; omega) hsq64).mono ?_
          rintro e w6 ⟨vf, rfl, hf6, k6⟩
          rw [HALL.out] at hf6 ⊢
          obtain ⟨of6, cf6, rfl, -, -⟩ := hf6.shape
          rw [← HNL.out] at hf6 ⊢
          have HF6 := Lib.hid hf6
          have K6 := Lib.hid k6
          clear hf6 k6
          go_wp2
          go_meet
          exact ⟨of6, cf6, rfl, rfl, HF6.out, K6.out⟩
      case rest =>
        obtain ⟨ol, cl, rfl, rfl, hcut⟩ := hcut
        have B6 := Lib.hid (B5.out.next hcut.out.2)
        have HH6 := Lib.hid (HH5.out.kp hcut.out.2)
        have HX6 := Lib.hid (HX5.out.kp hcut.out.2 (by simp))
        have HB6 := Lib.hid (HB5.out.kp hcut.out.2 (by simp))
        have HR6 := Lib.hid hcut.out.1
        have HB0 : Hid (w.heap.size + 2 ≤ w5.heap.size) := B5.out.size
        clear hcut B5 HH5 HX5 HB5 hsqI HV
        by_cases hc : p + nn < bl
        · have HOP := Lib.hid (HOPC.out hc)
          have dc : decide ((p : Int) + (nn : Int) < (bl : Int)) = true := decide_eq_true (by omega)
          go_wp2_with (refine wpList_ldT rfl _ rfl _ _ rfl B6.out.box rfl ?_)
          refine (r14gone d _ sNext _ HH6.out).mono ?_
          rintro e w7 ⟨v7, rfl, h7, k7⟩
          obtain ⟨ao7, n7, cap7, left7, rfl, -⟩ := h7.form
          obtain ⟨d7, hd7⟩ : ∃ d7, d7 = (d.goneD sNext).1 := ⟨_, rfl⟩
          obtain ⟨q7, hq7⟩ : ∃ q7, q7 = (d.goneD sNext).2 := ⟨_, rfl⟩
          rw [← hd7] at h7 ⊢
          rw [← hq7]
          have HG7 : Hid (d.goneD sNext = (d7, q7)) := by show _ = _; rw [hd7, hq7]
          have B7 := Lib.hid ((B6.out.next k7).next (kp1 w7 (.cells #[.slice ao7 n7 cap7, .int .i64 (d7.room : Int), .bool d7.fuse.isSome, .int .i64 left7, .bool d7.dead] 31)))
          have HT7 := Lib.hid (h7.kp (kp1 w7 (.cells #[.slice ao7 n7 cap7, .int .i64 (d7.room : Int), .bool d7.fuse.isSome, .int .i64 left7, .bool d7.dead] 31)))
          have HX7 := Lib.hid ((HX6.out.kp k7 (by simp)).kp (kp1 w7 (.cells #[.slice ao7 n7 cap7, .int .i64 (d7.room : Int), .bool d7.fuse.isSome, .int .i64 left7, .bool d7.dead] 31)) (by simp))
          have HB7 := Lib.hid ((HB6.out.kp k7 (by simp)).kp (kp1 w7 (.cells #[.slice ao7 n7 cap7, .int .i64 (d7.room : Int), .bool d7.fuse.isSome, .int .i64 left7, .bool d7.dead] 31)) (by simp))
          have HR7 := Lib.hid ((HR6.out.kp k7).kp (kp1 w7 (.cells #[.slice ao7 n7 cap7, .int .i64 (d7.room : Int), .bool d7.fuse.isSome, .int .i64 left7, .bool d7.dead] 31)))
          clear h7 k7 hd7 hq7 B6 HH6 HX6 HB6 HR6
          go_upto_region 12 with (refine wpList_stT rfl _ _ rfl _ _ _ _ _ _ _ rfl rfl B7.out.box rfl ⟨rfl, rfl, rfl, rfl, rfl⟩ ?_; intro w8 hg8 k8 z8)
          have B8 := Lib.hid (B7.out.put k8 hg8)
          have HT8 := Lib.hid (HT7.out.shun B7.out.box (by decide) (noU8_T _ _ _ _ _ _ _) k8)
          have HX8 := Lib.hid (HX7.out.shun B7.out.box (noU8_T _ _ _ _ _ _ _) k8)
          have HB8 := Lib.hid (HB7.out.shun B7.out.box (noU8_T _ _ _ _ _ _ _) k8)
          have HR8 := Lib.hid (HR7.out.shun B7.out.box (noU8_T _ _ _ _ _ _ _) (by have := HB0.out; omega) k8)
          clear hg8 k8 z8 B7 HT7 HX7 HB7 HR7
          cases q7 with
          | false =>
            have HOP2 : Hid (d.openD = ⟨d7, 22, [], [], 0⟩) := by
              show _ = _
              have hcd : d.cutD R nn = (d7, false) := by unfold Dk.cutD; rw [HG7.out]; rfl
              rw [HOP.out, hcd]; rfl
            go_wp2_with (first | (refine wpList_ldT rfl _ rfl _ _ rfl B8.out.box rfl ?_) | (refine wpList_st14 rfl _ _ rfl _ _ _ _ _ _ _ _ _ rfl rfl B8.out.ans rfl ⟨rfl, rfl, rfl, rfl, rfl, rfl, rfl⟩ ?_; intro w9 hg9 k9 z9))
            have K9 := B8.out.kp.trans (k9.shed (B' := w.heap.size) (by simp) (by have := B8.out.size; omega))
            have T9 := HT8.out.shun B8.out.ans (by decide) noU8_0 k9
            (try simp only [Exit.inBlock, Exit.then])
            refine bodyPost_ret (results_list (rs := [.cell 2 35, .tmp 3, .tmp 4, .tmp 5]) rfl (by simp) (.cell (w.heap.size + 1) 35 _ (0, 0) _ rfl hg9 Tryz.underlying35 rfl infoT14 (.tmp (.tmp (.tmp .nil))))) rfl ?_
            have e := HOP2.out
            rw [e]
            exact ⟨_, _, _, rfl, ⟨_, _, _, _, rfl, T9, Nat.zero_lt_succ _⟩, BytesV.nil _ _, ⟨w.heap.size, Nat.le_refl _, RowsA.nil _ _⟩, K9⟩
          | true =>
            by_cases hn0 : 0 < nn
            · have dn : decide ((0 : Int) < (nn : Int)) = true := decide_eq_true (by omega)
              go_upto_region 13 with fail
              have hpc : ¬ cb = p := by omega
              have hpnc : p + nn ≤ cb := by omega
              have hcmp : ((p : Int) + (nn : Int) ≤ (cb : Int)) := by omega
              have hcmp0 : (0 : Int) ≤ (p : Int) + (nn : Int) := by omega
              have hcmp1 : (p : Int) ≤ (p : Int) + (nn : Int) := by omega
              have hwr : IntKind.i64.wrap ((p : Int) + (nn : Int)) = (p : Int) + (nn : Int) := IntWalk.i64_in _ ⟨by omega, by omega⟩
              have hto : ((p : Int) + (nn : Int)).toNat = p + nn := by omega
              have hto2 : p + nn - p = nn := by omega
              obtain ⟨x0, x1, x2, x3, x4⟩ := boxT B8.out.box
              obtain ⟨d9, hd9⟩ : ∃ d9, d9 = (d7.laidD (R.take nn) sLog).1 := ⟨_, rfl⟩
              obtain ⟨q9, hq9⟩ : ∃ q9, q9 = (d7.laidD (R.take nn) sLog).2 := ⟨_, rfl⟩
              have HBN := HB8.out.behind (k := p) (by rw [← HBL.out]; exact hp)
              rw [if_neg hpc, ← HR.out] at HBN
              have HBN2 := Lib.hid (HBN.take nn (by rw [HRL.out]; omega))
              have HLD : Hid (∀ W, Kp [] w8.heap.size w8 W → Calls Tryz.prog 47 #[.agg #[.slice ao7 n7 cap7, .int .i64 (d7.room : Int), .bool d7.fuse.isSome, .int .i64 left7, .bool d7.dead], .slice (Option.map (fun x => x.add p) ob) nn (cb - p), .string ⟨sLog.toArray⟩] W fun e w' => ∃ ao9 n9 cap9 left9, e = .returned (.tuple #[.agg #[.slice ao9 n9 cap9, .int .i64 (d9.room : Int), .bool d9.fuse.isSome, .int .i64 left9, .bool d9.dead], .bool q9]) ∧ IsT w' (.agg #[.slice ao9 n9 cap9, .int .i64 (d9.room : Int), .bool d9.fuse.isSome, .int .i64 left9, .bool d9.dead]) d9 ∧ Kp [] W.heap.size W w') := Lib.hid fun W hk => by
                refine (r14laid d7 _ (R.take nn) sLog _ W (HT8.out.kp hk) (HBN2.out.kp hk (by simp)) (by decide) (by simp; omega)).mono ?_
                rintro e w9 ⟨v9, rfl, h9, k9⟩
                obtain ⟨ao9, n9, cap9, left9, rfl, -⟩ := h9.form
                rw [← hd9] at h9 ⊢
                rw [← hq9]
                exact ⟨ao9, n9, cap9, left9, rfl, h9, k9⟩
              have HDQ : Hid (d7.laidD (R.take nn) sLog = (d9, q9)) := by show _ = _; rw [hd9, hq9]
              clear HBN hd9 hq9
              go_cut [16, 17] (fun pg one wx => ∃ (g : Nat), pg = .pointer (some ⟨g, 0, none⟩) ∧ one = .bool q9 ∧ Hid (∃ ao9 n9 cap9 left9, wx.heap[g]? = some (.cells #[.slice ao9 n9 cap9, .int .i64 (d9.room : Int), .bool d9.fuse.isSome, .int .i64 left9, .bool d9.dead] 31 (0, 0)) ∧ IsT wx (.agg #[.slice ao9 n9 cap9, .int .i64 (d9.room : Int), .bool d9.fuse.isSome, .int .i64 left9, .bool d9.dead]) d9 ∧ Kp [] w8.heap.size w8 wx))
              case first =>
                have hzz : (w8.alloc (.cells #[.slice none 0 0, .int .i64 0, .bool false, .int .i64 0, .bool false] 31)).drew.heap[w.heap.size]? = some (.cells #[.slice ao7 n7 cap7, .int .i64 (d7.room : Int), .bool d7.fuse.isSome, .int .i64 left7, .bool d7.dead] 31 (0, 0)) := (B8.out.next (kp1 _ _)).box
                obtain ⟨z0, z1, z2, z3, z4⟩ := boxT hzz
                clear hzz
                go_region_with (go_at_call 47; refine (HLD.out _ (by first | exact (Kp.refl [] _ _).drew 1 | exact (kp1 _ _).drew 1)).mono ?_; rintro e w9 ⟨ao9, n9, cap9, left9, rfl, h9, k9⟩; have HT9 := Lib.hid h9; have K9 := Lib.hid k9; (try (have hzb : w9.heap[w8.heap.size]? = some (.cells #[.slice none 0 0, .int .i64 0, .bool false, .int .i64 0, .bool false] 31 (0, 0)) := (k9.block w8.heap.size (by show w8.heap.size < (w8.alloc _).heap.size; simp) (by simp)).trans (World.alloc_heap_new w8 _); obtain ⟨y0, y1, y2, y3, y4⟩ := boxT hzb; have f0 : w9.frozen? ⟨w8.heap.size, 0, none⟩ = false := Lib.frozen_of_heap hzb 0; have f1 : w9.frozen? ⟨w8.heap.size, 1, none⟩ = false := Lib.frozen_of_heap hzb 1; have f2 : w9.frozen? ⟨w8.heap.size, 2, none⟩ = false := Lib.frozen_of_heap hzb 2; have f3 : w9.frozen? ⟨w8.heap.size, 3, none⟩ = false := Lib.frozen_of_heap hzb 3; have f4 : w9.frozen? ⟨w8.heap.size, 4, none⟩ = false := Lib.frozen_of_heap hzb 4; have HZB := Lib.hid hzb; clear hzb)); clear h9 k9)
                all_goals (
                  go_wp2
                  go_meet
                  first
                  | (have hzb := HZB.out
                     have kl := set5_kp w9 w8.heap.size (.slice ao9 n9 cap9) (.int .i64 (d9.room : Int)) (.bool d9.fuse.isSome) (.int .i64 left9) (.bool d9.dead)
                     have hb := set5b hzb (.slice ao9 n9 cap9) (.int .i64 (d9.room : Int)) (.bool d9.fuse.isSome) (.int .i64 left9) (.bool d9.dead)
                     have ht := HT9.out.shun hzb (by decide) (noU8_T _ _ _ _ _ _ _) kl
                     have hle : w8.heap.size ≤ (w8.alloc (.cells #[.slice none 0 0, .int .i64 0, .bool false, .int .i64 0, .bool false] 31)).heap.size := by simp
                     have k0 : Kp [] w8.heap.size w8 (w8.alloc (.cells #[.slice none 0 0, .int .i64 0, .bool false, .int .i64 0, .bool false] 31)).drew := (kp1 w8 _).drew 1
                     have k1 := k0.trans (K9.out.mono (by simp) hle)
                     have k2 := k1.trans (kl.shed (B' := w8.heap.size) (by simp) (Nat.le_trans hle K9.out.size))
                     exact ⟨_, rfl, rfl, ao9, n9, cap9, left9, hb, ht, k2⟩)
                  | (have hb := World.alloc_heap_new w9 (.cells #[.slice ao9 n9 cap9, .int .i64 (d9.room : Int), .bool d9.fuse.isSome, .int .i64 left9, .bool d9.dead] 31)
                     have ht := HT9.out.kp (kp1 w9 (.cells #[.slice ao9 n9 cap9, .int .i64 (d9.room : Int), .bool d9.fuse.isSome, .int .i64 left9, .bool d9.dead] 31))
                     have k0 : Kp [] w8.heap.size w8 w8.drew := (Kp.refl [] w8.heap.size w8).drew 1
                     have k2 := (k0.trans K9.out).alloc K9.out.size (.cells #[.slice ao9 n9 cap9, .int .i64 (d9.room : Int), .bool d9.fuse.isSome, .int .i64 left9, .bool d9.dead] 31)
                     exact ⟨_, rfl, rfl, ao9, n9, cap9, left9, hb, ht, k2⟩))
              case rest =>
                obtain ⟨g9, rfl, rfl, hcut9⟩ := hcut
                obtain ⟨ao9, n9, cap9, left9, hb9, ht9, k9⟩ := hcut9.out
                have B9 := Lib.hid (B8.out.next k9)
                have HG9 := Lib.hid hb9
                have HT9 := Lib.hid ht9
                have HX9 := Lib.hid (HX8.out.kp k9 (by simp))
                have HR9 := Lib.hid (HR8.out.kp k9)
                have HLA : Hid (d.cutD R nn = (d9, q9)) := by
                  show _ = _
                  unfold Dk.cutD
                  rw [HG7.out, andD_true (r := (d7, true)) rfl, if_pos hn0, HDQ.out]
                clear hcut9 hb9 ht9 k9 B8 HT8 HX8 HB8 HR8 HLD HBN2 x0 x1 x2 x3 x4 HDQ hcmp hcmp0 hcmp1 hwr hto hto2
                go_upto_region 20 with (first | (refine wpList_ldT rfl _ rfl _ _ rfl HG9.out rfl ?_) | (refine wpList_stT rfl _ _ rfl _ _ _ _ _ _ _ rfl rfl B9.out.box rfl ⟨rfl, rfl, rfl, rfl, rfl⟩ ?_; intro w10 hg10 k10 z10))
                have B10 := Lib.hid (B9.out.put k10 hg10)
                have HT10 := Lib.hid (HT9.out.shun B9.out.box (by decide) (noU8_T _ _ _ _ _ _ _) k10)
                have HX10 := Lib.hid (HX9.out.shun B9.out.box (noU8_T _ _ _ _ _ _ _) k10)
                have HR10 := Lib.hid (HR9.out.shun B9.out.box (noU8_T _ _ _ _ _ _ _) (by have := HB0.out; omega) k10)
                clear hg10 k10 z10 B9 HT9 HX9 HR9 HG9
                cases q9 with
                | false =>
                  have HOP2 : Hid (d.openD = ⟨d9, 22, [], [], 0⟩) := by show _ = _; rw [HOP.out, HLA.out]; rfl
                  go_wp2_with (first | (refine wpList_ldT rfl _ rfl _ _ rfl B10.out.box rfl ?_) | (refine wpList_st14 rfl _ _ rfl _ _ _ _ _ _ _ _ _ rfl rfl B10.out.ans rfl ⟨rfl, rfl, rfl, rfl, rfl, rfl, rfl⟩ ?_; intro w9 hg9 k9 z9))
                  have K9 := B10.out.kp.trans (k9.shed (B' := w.heap.size) (by simp) (by have := B10.out.size; omega))
                  have T9 := HT10.out.shun B10.out.ans (by decide) noU8_0 k9
                  (try simp only [Exit.inBlock, Exit.then])
                  refine bodyPost_ret (results_list (rs := [.cell 2 35, .tmp 3, .tmp 4, .tmp 5]) rfl (by simp) (.cell (w.heap.size + 1) 35 _ (0, 0) _ rfl hg9 Tryz.underlying35 rfl infoT14 (.tmp (.tmp (.tmp .nil))))) rfl ?_
                  have e := HOP2.out
                  rw [e]
                  exact ⟨_, _, _, rfl, ⟨_, _, _, _, rfl, T9, Nat.zero_lt_succ _⟩, BytesV.nil _ _, ⟨w.heap.size, Nat.le_refl _, RowsA.nil _ _⟩, K9⟩
                | true =>
                  have HOP2 : Hid (d.openD = ⟨d9, 0, x, rows, WQ⟩) := by show _ = _; rw [HOP.out, HLA.out]; rfl
                  have hWI := HWI.out
                  go_wp2_with (first | (refine wpList_ldT rfl _ rfl _ _ rfl B10.out.box rfl ?_) | (refine wpList_st14 rfl _ _ rfl _ _ _ _ _ _ _ _ _ rfl rfl B10.out.ans rfl ⟨rfl, rfl, rfl, rfl, rfl, rfl, rfl⟩ ?_; intro w9 hg9 k9 z9))
                  have K9 := B10.out.kp.trans (k9.shed (B' := w.heap.size) (by simp) (by have := B10.out.size; omega))
                  have T9 := HT10.out.shun B10.out.ans (by decide) noU8_0 k9
                  have X9 := HX10.out.shun B10.out.ans noU8_0 k9
                  have R9 := HR10.out.shun B10.out.ans noU8_0 (by have := HB0.out; omega) k9
                  (try simp only [Exit.inBlock, Exit.then])
                  refine bodyPost_ret (results_list (rs := [.cell 2 35, .tmp 3, .tmp 4, .tmp 5]) rfl (by simp) (.cell (w.heap.size + 1) 35 _ (0, 0) _ rfl hg9 Tryz.underlying35 rfl infoT14 (.tmp (.tmp (.tmp .nil))))) rfl ?_
                  have e := HOP2.out
                  rw [e]
                  exact ⟨_, _, _, rfl, ⟨_, _, _, _, rfl, T9, HWL.out⟩, X9, ⟨w5.heap.size, by have := HB0.out; omega, R9⟩, K9⟩
            · have dn : decide ((0 : Int) < (nn : Int)) = false := decide_eq_false (by omega)
              go_wp2_with (refine wpList_ldT rfl _ rfl _ _ rfl B8.out.box rfl ?_)
              refine (rDrop d7 _ sLog w8 HT8.out).mono ?_
              rintro e w9 ⟨v9, rfl, h9, k9⟩
              obtain ⟨ao9, n9, cap9, left9, rfl, -⟩ := h9.form
              obtain ⟨d9, hd9⟩ : ∃ d9, d9 = (d7.drop sLog).1 := ⟨_, rfl⟩
              obtain ⟨q9, hq9⟩ : ∃ q9, q9 = (d7.drop sLog).2 := ⟨_, rfl⟩
              rw [← hd9] at h9 ⊢
              rw [← hq9]
              have HLA : Hid (d.cutD R nn = (d9, q9)) := by
                show _ = _
                unfold Dk.cutD
                rw [HG7.out, andD_true (r := (d7, true)) rfl, if_neg hn0, hd9, hq9]
              have B9 := Lib.hid ((B8.out.next k9).next (kp1 w9 (.cells #[.slice ao9 n9 cap9, .int .i64 (d9.room : Int), .bool d9.fuse.isSome, .int .i64 left9, .bool d9.dead] 31)))
              have HT9 := Lib.hid (h9.kp (kp1 w9 (.cells #[.slice ao9 n9 cap9, .int .i64 (d9.room : Int), .bool d9.fuse.isSome, .int .i64 left9, .bool d9.dead] 31)))
              have HX9 := Lib.hid ((HX8.out.kp k9 (by simp)).kp (kp1 w9 (.cells #[.slice ao9 n9 cap9, .int .i64 (d9.room : Int), .bool d9.fuse.isSome, .int .i64 left9, .bool d9.dead] 31)) (by simp))
              have HR9 := Lib.hid ((HR8.out.kp k9).kp (kp1 w9 (.cells #[.slice ao9 n9 cap9, .int .i64 (d9.room : Int), .bool d9.fuse.isSome, .int .i64 left9, .bool d9.dead] 31)))
              clear h9 k9 hd9 hq9 B8 HT8 HX8 HB8 HR8
              go_upto_region 20 with (refine wpList_stT rfl _ _ rfl _ _ _ _ _ _ _ rfl rfl B9.out.box rfl ⟨rfl, rfl, rfl, rfl, rfl⟩ ?_; intro w10 hg10 k10 z10)
              have B10 := Lib.hid (B9.out.put k10 hg10)
              have HT10 := Lib.hid (HT9.out.shun B9.out.box (by decide) (noU8_T _ _ _ _ _ _ _) k10)
              have HX10 := Lib.hid (HX9.out.shun B9.out.box (noU8_T _ _ _ _ _ _ _) k10)
              have HR10 := Lib.hid (HR9.out.shun B9.out.box (noU8_T _ _ _ _ _ _ _) (by have := HB0.out; omega) k10)
              clear hg10 k10 z10 B9 HT9 HX9 HR9
              cases q9 with
              | false =>
                have HOP2 : Hid (d.openD = ⟨d9, 22, [], [], 0⟩) := by show _ = _; rw [HOP.out, HLA.out]; rfl
                go_wp2_with (first | (refine wpList_ldT rfl _ rfl _ _ rfl B10.out.box rfl ?_) | (refine wpList_st14 rfl _ _ rfl _ _ _ _ _ _ _ _ _ rfl rfl B10.out.ans rfl ⟨rfl, rfl, rfl, rfl, rfl, rfl, rfl⟩ ?_; intro w9 hg9 k9 z9))
                have K9 := B10.out.kp.trans (k9.shed (B' := w.heap.size) (by simp) (by have := B10.out.size; omega))
                have T9 := HT10.out.shun B10.out.ans (by decide) noU8_0 k9
                (try simp only [Exit.inBlock, Exit.then])
                refine bodyPost_ret (results_list (rs := [.cell 2 35, .tmp 3, .tmp 4, .tmp 5]) rfl (by simp) (.cell (w.heap.size + 1) 35 _ (0, 0) _ rfl hg9 Tryz.underlying35 rfl infoT14 (.tmp (.tmp (.tmp .nil))))) rfl ?_
                have e := HOP2.out
                rw [e]
                exact ⟨_, _, _, rfl, ⟨_, _, _, _, rfl, T9, Nat.zero_lt_succ _⟩, BytesV.nil _ _, ⟨w.heap.size, Nat.le_refl _, RowsA.nil _ _⟩, K9⟩
              | true =>
                have HOP2 : Hid (d.openD = ⟨d9, 0, x, rows, WQ⟩) := by show _ = _; rw [HOP.out, HLA.out]; rfl
                have hWI := HWI.out
                go_wp2_with (first | (refine wpList_ldT rfl _ rfl _ _ rfl B10.out.box rfl ?_) | (refine wpList_st14 rfl _ _ rfl _ _ _ _ _ _ _ _ _ rfl rfl B10.out.ans rfl ⟨rfl, rfl, rfl, rfl, rfl, rfl, rfl⟩ ?_; intro w9 hg9 k9 z9))
                have K9 := B10.out.kp.trans (k9.shed (B' := w.heap.size) (by simp) (by have := B10.out.size; omega))
                have T9 := HT10.out.shun B10.out.ans (by decide) noU8_0 k9
                have X9 := HX10.out.shun B10.out.ans noU8_0 k9
                have R9 := HR10.out.shun B10.out.ans noU8_0 (by have := HB0.out; omega) k9
                (try simp only [Exit.inBlock, Exit.then])
                refine bodyPost_ret (results_list (rs := [.cell 2 35, .tmp 3, .tmp 4, .tmp 5]) rfl (by simp) (.cell (w.heap.size + 1) 35 _ (0, 0) _ rfl hg9 Tryz.underlying35 rfl infoT14 (.tmp (.tmp (.tmp .nil))))) rfl ?_
                have e := HOP2.out
                rw [e]
                exact ⟨_, _, _, rfl, ⟨_, _, _, _, rfl, T9, HWL.out⟩, X9, ⟨w5.heap.size, by have := HB0.out; omega, R9⟩, K9⟩
        · have HOP := Lib.hid (HOPN.out hc)
          have dc : decide ((p : Int) + (nn : Int) < (bl : Int)) = false := decide_eq_false (by omega)
          have hWI := HWI.out
          go_wp2_with (first | (refine wpList_ldT rfl _ rfl _ _ rfl B6.out.box rfl ?_) | (refine wpList_st14 rfl _ _ rfl _ _ _ _ _ _ _ _ _ rfl rfl B6.out.ans rfl ⟨rfl, rfl, rfl, rfl, rfl, rfl, rfl⟩ ?_; intro w9 hg9 k9 z9))
          have K9 := B6.out.kp.trans (k9.shed (B' := w.heap.size) (by simp) (by have := B6.out.size; omega))
          have T9 := HH6.out.shun B6.out.ans (by decide) noU8_0 k9
          have X9 := HX6.out.shun B6.out.ans noU8_0 k9
          have R9 := HR6.out.shun B6.out.ans noU8_0 (by have := HB0.out; omega) k9
          (try simp only [Exit.inBlock, Exit.then])
          refine bodyPost_ret (results_list (rs := [.cell 2 35, .tmp 3, .tmp 4, .tmp 5]) rfl (by simp) (.cell (w.heap.size + 1) 35 _ (0, 0) _ rfl hg9 Tryz.underlying35 rfl infoT14 (.tmp (.tmp (.tmp .nil))))) rfl ?_
          have e := HOP.out
          rw [e]
          exact ⟨_, _, _, rfl, ⟨_, _, _, _, rfl, T9, HWL.out⟩, X9, ⟨w5.heap.size, by have := HB0.out; omega, R9⟩, K9⟩
end Go.Proofs.YtdabflkejhoghaaGreat.Hand
