/- The reference: ref13.All. -/
import Derived.Below
import Derived.Deep.Draws
import Derived.Deep.AppendLies
import Derived.Maps.AppendAt
import Derived.OwnWalk
import Derived.Laws.BytesArg
import Derived.Laws.MakeOwn
import Derived.Laws.OwnMore
import Derived.Deep.OwnRows
import Derived.Tactics
import Derived.Lib.ConvBytes
import Derived.Laws.Slices
import Derived.WalkKit
import Derived.KernelRfl
import Derived.RowKit3
import Derived.Deep.LoopGhost
import Derived.Deep.QuietTactic
import Derived.BigQuiet
import Derived.WideLaws
import Derived.Deep.DeepCutAuto
import Derived.Deep.CutBlock
import Derived.Deep.RegionHeld3
import Derived.Laws.Rows
import Derived.Lib.AppendStr
import Derived.ArgAppend
import Derived.Laws.IdiomCopy
import Derived.OrdersHeld
import Derived.Laws.BitsLemmas
import Derived.RowKit
import Derived.Outline
import Derived.Maps.Own
import Derived.Maps.OwnOps
import Derived.Maps.OwnSet
import Derived.Maps.Views
import Derived.Maps.RangeWalk
import Derived.Maps.Ext
import Derived.RangeFuncOwn
import Derived.OneCell
import Derived.Deep.DeepMust
import Derived.Lib.Hide
import Derived.StillTailTactics
import Derived.Laws.AppendOwnNone
import Derived.WalkMore
import Derived.Lib.SlBytesConst
import Derived.WalkLawsBesides
import Derived.Laws.BitsAllLaws
import Derived.Test.YtdabflkejhoghaaGreatHRf
import Derived.Test.YtdabflkejhoghaaGreatHQe
import Derived.Test.YtdabflkejhoghaaGreatHKc
namespace Go.Proofs.YtdabflkejhoghaaGreat.Hand
open Go Go.RowKit Go.Maps Go.WideMaps
set_option linter.unusedVariables false
set_option linter.unusedSimpArgs false
/-- append(rows, x): one more row -/
theorem wpList_appR {w : World} {ops : Array Oper} {rest : List Oper} {o : Oper} {a : Act} {Q : Exit → Act → World → Prop} (hg : o.guard = none) (s x : Operand)
    (ho : o.op = .call { callee := .builtin .append, args := #[s, x], argTypes := #[49, 49] }) (base : Nat) (v : Value) (n : Nat) (xs : List Value) (hs : a.eval s = v) (hown : w.ownsRow base 39 1 v n xs)
    (g c : Nat) (u : Value) (hx : a.eval x = .slice (some ⟨g, 0, none⟩) 1 c) (hu : w.cell? ⟨g, 0, none⟩ = some u) (hu1 : u.oneCell' = true) (hlen : n + 1 ≤ 1000000) (hbase : base ≤ w.heap.size)
    (hK : ∀ v' w', w'.ownsRow base 39 1 v' (n + 1) (xs ++ [u]) → w.grownBy w' v.ownBlock → wpList Tryz.prog ops Q rest (a.put o.dst v') w') : wpList Tryz.prog ops Q (o :: rest) a w := by
  obtain ⟨i0, hi, hz0, hz1, hz2⟩ := info_parts infoRow
  refine wpList_append_own w hg s x 49 ho base 39 i0 (.slice none 0 0) 1 24 Tryz.underlying49 hi hz0 hz1 hz2 rfl (by decide) v n xs hs hown ⟨g, 0, none⟩ 1 c [u] hx rfl ?_ (by simpa using hu1) (by unfold maxLen; omega) (by omega) hbase (fun v' w' h1 h2 _ => hK v' w' h1 h2)
  intro j y hy
  match j, hy with
  | 0, hy =>
    have e : (⟨g, 0, none⟩ : Addr).add 0 = ⟨g, 0, none⟩ := by unfold Addr.add; split <;> simp_all
    rw [e, hu]; simpa using hy
  | j + 1, hy => simp at hy
/-- rows of bytes of an elder world's, in a row of one's own -/
def RowsA (w : World) (base : Nat) (v : Value) (L : List (List UInt8)) : Prop := ∃ hs : List (Value × List UInt8), L = hs.map (·.2) ∧ w.ownsRow base 39 1 v hs.length (hs.map (·.1)) ∧ ∀ h ∈ hs, BytesV w (fun k => k < base) h.1 h.2
theorem BytesV.old {w w' : World} {base : Nat} {v : Value} {b : List UInt8} (h : BytesV w (fun k => k < base) v b) (hk : Kp [] base w w') : BytesV w' (fun k => k < base) v b :=
  h.mono hk.size (fun k ha _ => ⟨ha, hk.block k ha (by simp)⟩)
theorem RowsA.nil (w : World) (base : Nat) : RowsA w base (.slice none 0 0) [] := ⟨[], rfl, ⟨rfl, .inl ⟨rfl, rfl⟩⟩, by simp⟩
theorem RowsA.kp {w w' : World} {base : Nat} {v : Value} {L : List (List UInt8)} (h : RowsA w base v L) (hk : Kp [] w.heap.size w w') : RowsA w' base v L := by
  obtain ⟨hs, h1, h2, h3⟩ := h
  exact ⟨hs, h1, own_kp h2 hk (Nat.le_refl _), fun h hh => (h3 h hh).kp hk (by simp)⟩
theorem RowsA.kpL {w w' : World} {base : Nat} {v : Value} {L : List (List UInt8)} (h : RowsA w base v L) (hk : Kp [] w.heap.size w w') : RowsA w' base v L := h.kp hk
theorem RowsA.shape {w : World} {base : Nat} {v : Value} {L : List (List UInt8)} (h : RowsA w base v L) : ∃ ao cap, v = .slice ao L.length cap ∧ L.length ≤ cap ∧ cap ≤ maxLen := by
  obtain ⟨hs, rfl, ⟨_, h2⟩, _⟩ := h
  rcases h2 with ⟨rfl, hn⟩ | ⟨g, cap, cur, rfl, _, _, h3, h4, _⟩
  · exact ⟨none, 0, by simp [hn], by simp [hn], by decide⟩
  · exact ⟨some ⟨g, 0, none⟩, cap, by simp, by simpa using h3, h4⟩
theorem RdRows.of_A {w : World} {base : Nat} {v : Value} {L : List (List UInt8)} (h : RowsA w base v L) : RdRows w v L := by
  obtain ⟨ao, cap, rfl, hc, hc2⟩ := h.shape
  obtain ⟨hs, rfl, ⟨h1, h2⟩, h3⟩ := h
  refine ⟨ao, cap, rfl, hc, fun i hi => ?_⟩
  have hi' : i < hs.length := by simpa using hi
  rcases h2 with ⟨e, hn⟩ | ⟨g, cap', cur, e, hg, hb, h4, h5, h6, h7⟩
  · omega
  · injection e with e1 e2 e3
    have hb3 := (h3 hs[i] (List.getElem_mem _)).low
    obtain ⟨so, c, hv, -, -, -⟩ := id hb3
    refine ⟨⟨g, 0, none⟩, so, hs[i].2.length, c, e1, (Array.getElem?_eq_some_iff.1 hb).1, ?_, by simp, ?_⟩
    · have ea : (⟨g, 0, none⟩ : Addr).add i = ⟨g, i, none⟩ := by unfold Addr.add; split <;> simp_all
      rw [ea, Lib.cell_of_heap hb, ← Array.getElem?_toList]
      have h8 : (cur.toList.take (hs.length * 1))[i]? = (hs.map (·.1))[i]? := by rw [h7]
      rw [List.getElem?_take_of_lt (by omega)] at h8
      rw [h8, List.getElem?_map, List.getElem?_eq_getElem hi']
      simp only [Option.map_some]
      rw [hv]
    · rw [hv] at hb3
      simpa using hb3
/-- a row more -/
theorem RowsA.more {w w1 w2 : World} {base : Nat} {v v' vx : Value} {L : List (List UInt8)} {x : List UInt8} (h : RowsA w base v L) (hx : BytesV w1 (fun k => k < base) vx x) (k1 : Kp [] base w w1) (k2 : Kp [] base w1 w2)
    (hown : ∀ hs : List (Value × List UInt8), L = hs.map (·.2) → w.ownsRow base 39 1 v hs.length (hs.map (·.1)) → w2.ownsRow base 39 1 v' (hs.length + 1) (hs.map (·.1) ++ [vx])) : RowsA w2 base v' (L ++ [x]) := by
  obtain ⟨hs, rfl, h2, h3⟩ := h
  refine ⟨hs ++ [(vx, x)], by simp, ?_, fun h hh => ?_⟩
  · simpa using hown hs rfl h2
  · rcases List.mem_append.1 hh with hh | hh
    · exact ((h3 h hh).old k1).old k2
    · rw [List.mem_singleton.1 hh]; exact hx.old k2
set_option maxHeartbeats 1600000 in
set_option maxRecDepth 100000 in
theorem r13All {A : Nat → Prop} (v : Value) (b : List UInt8) (seq : Nat) (w : World) (h : BytesV w A v b) (hlm : b.length ≤ 1000000) (hs : seq < 18446744073709551616) :
    Calls Tryz.prog 45 #[v, .int .u64 (seq : Int)] w fun e w' => ∃ v', e = .returned (.tuple #[v', .int .i64 ((allB b seq).2 : Nat)]) ∧ RowsA w' w.heap.size v' (allB b seq).1 ∧ Kp [] w.heap.size w w' := by
  have h := h.low
  obtain ⟨m, hm⟩ : ∃ m, m = b.length := ⟨_, rfl⟩
  obtain ⟨ao, cap, rfl, hc1, hc2, -⟩ := id h
  obtain ⟨base, hbase⟩ : ∃ base, base = w.heap.size := ⟨_, rfl⟩
  have HBS := Lib.hid hbase
  rw [← hm, ← hbase] at h
  rw [← hm] at hc1 hlm ⊢
  rw [← hbase]
  have HB := Lib.hid h
  have HM := Lib.hid hm
  clear h hbase hm
  go_enter Tryz.func45, Tryz.ntmps45
  go_wp2
  go_loopw [1, 6, 7] (fun sq out fr wr => ∃ (k q n c : Nat) (oo : Option Addr) (P : List (List UInt8)), k ≤ m ∧ out = .slice oo n c ∧ fr = .int .i64 (k : Int) ∧ sq = .int .u64 (q : Int) ∧ q < 18446744073709551616 ∧ n ≤ k ∧ Hid (n = P.length ∧ allB b seq = (P ++ (allB (b.drop k) q).1, k + (allB (b.drop k) q).2)) ∧ Hid (RowsA wr base (.slice oo n c) P ∧ Kp [] base w wr)) (fun _ _ fr _ => m - (intOf fr).toNat)
  case atStart => exact ⟨0, seq, 0, 0, none, [], by omega, rfl, rfl, rfl, hs, by omega, ⟨rfl, by simp⟩, RowsA.nil _ _, Kp.refl _ _ _⟩
  case round =>
    obtain ⟨k, q, n, c, oo, P, hk, rfl, rfl, rfl, hq, hnk, HE, HI⟩ := hrel
    obtain ⟨hR, hK⟩ := HI.out
    have HR := Lib.hid hR
    have HK := Lib.hid hK
    have hB := HB.out.old hK
    have hmb : m = b.length := HM.out
    have HV : Hid (if cap = k then BytesV wr (fun k => k < base) (.slice ao (m - k) 0) (b.drop k) else BytesV wr (fun k => k < base) (.slice (Option.map (fun x => x.add k) ao) (m - k) (cap - k)) (b.drop k)) := by
      by_cases h0 : b = []
      · subst h0
        simp at hmb
        have ha0 : k = 0 := by omega
        subst ha0
        subst hmb
        obtain ⟨ao', cap', he, _, _, h3⟩ := hB
        injection he with he1 _ he3
        subst he1 he3
        rcases h3 with ⟨rfl, _, rfl⟩ | ⟨x, rfl, hx1, hx2⟩
        · rw [if_pos rfl]; exact BytesV.nil _ _
        · split
          · exact ⟨_, 0, rfl, by simp, by omega, .inr ⟨x, rfl, fun h => absurd rfl h, fun j hj => absurd hj (by simp)⟩⟩
          · exact ⟨_, cap, rfl, by simp, by omega, .inr ⟨x.add 0, rfl, fun h => absurd rfl h, fun j hj => absurd hj (by simp)⟩⟩
      · obtain ⟨x0, rfl, -⟩ := hB.at (k := 0) (by cases b with | nil => exact absurd rfl h0 | cons => simp)
        have := hB.drop k (by omega)
        by_cases hc : k = cap
        · subst hc; rw [if_pos rfl]; rw [if_pos rfl, Nat.sub_self] at this; exact this
        · rw [if_neg (fun e => hc e.symm)]; rw [if_neg hc] at this; exact this
    have hbz : base ≤ wr.heap.size := by rw [HBS.out]; exact hK.size
    have hkc : k ≤ cap := by omega
    have hlb : (b.drop k).length ≤ 1000000 := by rw [List.length_drop, ← HM.out]; omega
    clear hR hK HI hB hmb
    cases hn : nextB (b.drop k) with
    | none =>
      have HN := Lib.hid hn
      have HE2 : Hid (allB b seq = (P, k)) := by
        have e := HE.out.2
        rw [allB_none hn] at e
        rw [e]; show _ = _; simp
      clear hn
      by_cases hca : cap = k
      · rw [if_pos hca] at HV
        go_wp2_with fail
        refine (r13Next_none _ (b.drop k) wr HV.out hlb HN.out).mono ?_
        rintro e w2 ⟨rfl, k2⟩
        have HR2 := Lib.hid (HR.out.kp k2)
        have HK2 := Lib.hid (HK.out.trans (k2.mono (by simp) hbz))
        clear k2
        go_wp2_with fail
        go_ret2
        rw [HE2.out]
        exact ⟨_, rfl, HR2.out, HK2.out⟩
      · rw [if_neg hca] at HV
        go_wp2_with fail
        refine (r13Next_none _ (b.drop k) wr HV.out hlb HN.out).mono ?_
        rintro e w2 ⟨rfl, k2⟩
        have HR2 := Lib.hid (HR.out.kp k2)
        have HK2 := Lib.hid (HK.out.trans (k2.mono (by simp) hbz))
        clear k2
        go_wp2_with fail
        go_ret2
        rw [HE2.out]
        exact ⟨_, rfl, HR2.out, HK2.out⟩
    | some p =>
      obtain ⟨s, x⟩ := p
      have HN := Lib.hid hn
      obtain ⟨i1, i2, i3, -⟩ := nextB_inv hn
      obtain ⟨xl, hxl⟩ : ∃ xl, xl = x.length := ⟨_, rfl⟩
      rw [List.length_drop, ← HM.out] at i3
      rw [← hxl] at i1 i3
      have HXL := Lib.hid hxl
      have hca : ¬ cap = k := by omega
      rw [if_neg hca] at HV
      clear hn
      go_wp2_with fail
      refine (r13Next_some _ (b.drop k) wr HV.out hlb HN.out).mono ?_
      rintro e w2 ⟨⟨vx, rfl, hX2⟩, k2⟩
      have HX2 := Lib.hid hX2
      obtain ⟨ox, cx, rfl, -, -, -⟩ := id hX2
      rw [← hxl] at HX2 ⊢
      have HR2 := Lib.hid (HR.out.kp k2)
      have HK2 := Lib.hid (HK.out.trans (k2.mono (by simp) hbz))
      have hbz2 : base ≤ w2.heap.size := Nat.le_trans hbz k2.size
      clear k2 hxl hX2
      by_cases hsq : s = q
      · have HE2 : Hid (allB b seq = ((P ++ [x]) ++ (allB (b.drop (k + (16 + xl))) ((q + 1) % 18446744073709551616)).1, (k + (16 + xl)) + (allB (b.drop (k + (16 + xl))) ((q + 1) % 18446744073709551616)).2)) := by
          have e := HE.out.2
          rw [← hsq, allB_some HN.out, List.drop_drop] at e
          rw [← hsq, HXL.out, e]
          show _ = _
          simp only [List.append_assoc, List.cons_append, List.nil_append, Nat.add_assoc]
        subst hsq
        have hqw : IntKind.u64.wrap ((s : Int) + 1) = (((s + 1) % 18446744073709551616 : Nat) : Int) := by rw [IntKind.wrap_u64]; omega
        have HO : Hid (∀ o : Obj, ∃ xs : List Value, (w2.alloc o).ownsRow base 39 1 (.slice oo n c) n xs ∧ ∀ (v' : Value) (w3 : World), w3.ownsRow base 39 1 v' (n + 1) (xs ++ [.slice ox xl cx]) → Kp [] base w2 w3 → RowsA w3 base v' (P ++ [x])) := by
          intro o
          obtain ⟨hs', hP, hown, hel⟩ := HR2.out
          have hn : hs'.length = n := by rw [HE.out.1, hP]; simp
          refine ⟨hs'.map (·.1), ?_, fun v' w3 h3 k3 => ⟨hs' ++ [(.slice ox xl cx, x)], by simp [hP], ?_, fun h hh => ?_⟩⟩
          · rw [← hn] at hown ⊢
            exact own_kp hown ((Kp.refl [] w2.heap.size w2).alloc (Nat.le_refl _) _) (Nat.le_refl _)
          · rw [← hn] at h3; simpa using h3
          · rcases List.mem_append.1 hh with hh | hh
            · exact (hel h hh).old k3
            · rw [List.mem_singleton.1 hh]; exact HX2.out.old k3
        go_upto_region 7 with (at_builtin; go_must (obtain ⟨xs, ho1, ho2⟩ := HO.out _; refine wpList_appR rfl _ _ rfl base _ n xs rfl ho1 w2.heap.size 1 (.slice ox xl cx) rfl ((cell1 (World.alloc_heap_new w2 _)).1) rfl (by omega) (by simp; omega) ?_; intro v7 w7 h7 g7; have k7 := ((Kp.refl [] base w2).alloc hbz2 (.cells #[.slice ox xl cx] 39)).trans (kp_grown g7 (own_ge ho1) (by simp; omega)); have HR7 := Lib.hid (ho2 v7 w7 h7 k7); obtain ⟨o7, n7, c7, hv7, hn7⟩ := own_shape h7; subst hv7; clear ho1 ho2))
        have HK7 := Lib.hid (HK2.out.trans k7)
        clear k7 h7 g7 HO
        obtain rfl : n7 = n + 1 := hn7
        go_wp2_with fail
        go_roundw
        case rel => exact ⟨k + (16 + xl), (s + 1) % 18446744073709551616, n + 1, c7, o7, P ++ [x], by omega, rfl, by go_num, by go_num, by omega, by omega, ⟨by have := HE.out.1; simp; omega, HE2.out⟩, HR7.out, HK7.out⟩
        case measure => simp [intOf]; omega
      · have HE2 : Hid (allB b seq = (P, k)) := by
          have e := HE.out.2
          rw [allB_other HN.out hsq] at e
          rw [e]; show _ = _; simp
        have c1 : ((s : Int) == (q : Int)) = false := by simp; omega
        have c2 : ((s : Int) != (q : Int)) = true := by simp; omega
        go_wp2_with fail
        go_ret2
        rw [HE2.out]
        exact ⟨_, rfl, HR2.out, HK2.out⟩
end Go.Proofs.YtdabflkejhoghaaGreat.Hand
