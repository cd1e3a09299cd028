/- The disk's law: deeds that came in, opened; bytes of one's own, spoilt. -/
import Derived.Below
import Derived.Deep.Draws
import Derived.Deep.AppendLies
import Derived.Maps.AppendAt
import Derived.OwnWalk
import Derived.Laws.BytesArg
import Derived.Laws.MakeOwn
import Derived.Laws.OwnMore
import Derived.Deep.OwnRows
import Derived.Tactics
import Derived.Lib.ConvBytes
import Derived.Laws.Slices
import Derived.WalkKit
import Derived.KernelRfl
import Derived.RowKit3
import Derived.Deep.LoopGhost
import Derived.Deep.QuietTactic
import Derived.BigQuiet
import Derived.WideLaws
import Derived.Deep.DeepCutAuto
import Derived.Deep.CutBlock
import Derived.Deep.RegionHeld3
import Derived.Laws.Rows
import Derived.Lib.AppendStr
import Derived.ArgAppend
import Derived.Laws.IdiomCopy
import Derived.OrdersHeld
import Derived.Laws.BitsLemmas
import Derived.RowKit
import Derived.Outline
import Derived.Maps.Own
import Derived.Maps.OwnOps
import Derived.Maps.OwnSet
import Derived.Maps.Views
import Derived.Maps.RangeWalk
import Derived.Maps.Ext
import Derived.RangeFuncOwn
import Derived.OneCell
import Derived.Deep.DeepMust
import Derived.Lib.Hide
import Derived.StillTailTactics
import Derived.Laws.AppendOwnNone
import Derived.WalkMore
import Derived.Lib.SlBytesConst
import Derived.WalkLawsBesides
import Derived.Laws.BitsAllLaws
import Derived.Test.YtdabflkejhoghaaHSm
namespace Go.Proofs.Ytdabflkejhoghaa.Hand
open Go Go.RowKit Go.Maps Go.WideMaps Go.ChangeShapes Go.WideShapes
set_option linter.unusedVariables false
set_option linter.unusedSimpArgs false
theorem own_setB {w : World} {B g n cap : Nat} {bs : List UInt8} (h : w.ownsRow B 5 1 (.slice (some ⟨g, 0, none⟩) n cap) n (bcells bs)) (j : Nat) (hj : j < bs.length) (c : UInt8) :
    (w.setCell ⟨g, j, none⟩ (.int .u8 (c.toNat : Int))).ownsRow B 5 1 (.slice (some ⟨g, 0, none⟩) n cap) n (bcells (bs.set j c)) := by
  obtain ⟨h1, h2⟩ := h
  refine ⟨by simpa [bcells] using h1, ?_⟩
  rcases h2 with ⟨hv, _⟩ | ⟨g', cap', cur, hv, hg, hb, h3, h4, h5, h6⟩
  · cases hv
  · injection hv with e1 e2 e3
    injection e1 with e1
    injection e1 with e1
    subst e1 e3
    refine .inr ⟨g, cap, cur.setIfInBounds j (.int .u8 (c.toNat : Int)), rfl, hg, ?_, h3, h4, by simpa using h5, ?_⟩
    · simp [World.setCell, Array.getElem?_modify, hb]
    · rw [Array.toList_setIfInBounds, List.take_set, h6]
      simp [bcells, List.map_set]
section
variable {H : Type} {enc : TypeId × Value → H} {P : Program} {W : World} {base : Nat} {spare : Nat → Bool} {held : Bool}
theorem cells5 {w : World} {base : Nat} {a : Addr} {c0 c1 c2 c3 c4 : Value} (h : w.cells? base a 5 = some [c0, c1, c2, c3, c4]) : w.cell? (a.add 0) = some c0 ∧ w.cell? (a.add 1) = some c1 ∧ w.cell? (a.add 2) = some c2 ∧ w.cell? (a.add 3) = some c3 ∧ w.cell? (a.add 4) = some c4 := by
  unfold World.cells? at h
  split at h
  · exact ⟨mapM_some_get h 0 0 rfl, mapM_some_get h 1 1 rfl, mapM_some_get h 2 2 rfl, mapM_some_get h 3 3 rfl, mapM_some_get h 4 4 rfl⟩
  · cases h
theorem trod_struct5 {t : TypeId} {f0 f1 f2 f3 f4 : Field} {fuel : Nat} {cs : List Value} {x : DataW H × List MemPlace} (ht : P.underlying t = some (.struct #[f0, f1, f2, f3, f4])) (h : DataW.trod enc P W base spare held fuel t cs = some x) :
    ∃ y0 y1 y2 y3 y4 n, x = (.agg [y0.1, y1.1, y2.1, y3.1, y4.1], y0.2 ++ (y1.2 ++ (y2.2 ++ (y3.2 ++ y4.2)))) ∧ cs.length = P.cellsOf t ∧ DataW.trod enc P W base spare held n f0.type ((cs.drop f0.offset).take (P.cellsOf f0.type)) = some y0 ∧
      DataW.trod enc P W base spare held n f1.type ((cs.drop f1.offset).take (P.cellsOf f1.type)) = some y1 ∧ DataW.trod enc P W base spare held n f2.type ((cs.drop f2.offset).take (P.cellsOf f2.type)) = some y2 ∧
      DataW.trod enc P W base spare held n f3.type ((cs.drop f3.offset).take (P.cellsOf f3.type)) = some y3 ∧ DataW.trod enc P W base spare held n f4.type ((cs.drop f4.offset).take (P.cellsOf f4.type)) = some y4 := by
  obtain ⟨xs, n, _, rfl, hl, hlen, hf⟩ := DataW.trod_struct ht h
  match xs, hlen with
  | [y0, y1, y2, y3, y4], _ => exact ⟨y0, y1, y2, y3, y4, n, by simp, hl, by simpa using hf 0 f0 rfl, by simpa using hf 1 f1 rfl, by simpa using hf 2 f2 rfl, by simpa using hf 3 f3 rfl, by simpa using hf 4 f4 rfl⟩
theorem i64_rangeW {a : Int} (h : (Lit.int .i64 a).wf = true) : -9223372036854775808 ≤ a ∧ a ≤ 9223372036854775807 := by
  simpa [Lit.wf, IntKind.min, IntKind.max, IntKind.bits, IntKind.signed] using h
set_option maxRecDepth 100000 in
theorem open_deeds {a : Option Addr} {len cap : Nat} {d : DataW H} {ps : List MemPlace} {ts : List TypeId} {ds : List (DataW H)} {j : Nat}
    (hsz : (DataW.weightsEach Try.prog ts ds).all (· ≤ reachBytes) = true) (ht : ts[j]? = some 55) (hd : ds[j]? = some d)
    (h : DataW.Trod enc Try.prog W base spare held 55 (.slice a len cap) d ps) : len * 40 ≤ 140737488351232 ∧ ∃ rs, DeedsV W a len cap rs := by
  have hu : Try.prog.underlying 55 = some (.slice 67) := Try.underlying55
  have hce : Try.prog.cellsOf 67 = 5 := by kernel_rfl
  have hBe : Try.prog.bytesOf 67 = 40 := by kernel_rfl
  have h1u : Try.prog.cellsOf 5 = 1 := by kernel_rfl
  have h1i : Try.prog.cellsOf 3 = 1 := by kernel_rfl
  have h1b : Try.prog.cellsOf 22 = 1 := by kernel_rfl
  have hB1 : Try.prog.bytesOf 5 = 1 := by kernel_rfl
  obtain ⟨fuel, hf⟩ := h
  rcases DataW.trod_slice hu hf with ⟨hcs, _⟩ | ⟨x, l, c, elems, rest, n, _, hcs, hx, hb, hl, hm, hlen, hel, _⟩
  · simp [Value.cells] at hcs
    obtain ⟨rfl, rfl, rfl⟩ := hcs
    exact ⟨by omega, [], rfl, .inl ⟨rfl, rfl, rfl⟩⟩
  · simp [Value.cells] at hcs
    obtain ⟨rfl, rfl, rfl⟩ := hcs
    obtain ⟨hx, _⟩ := Prod.mk.inj hx
    have hall : ∀ k ∈ d.weights Try.prog 55, k ≤ reachBytes := fun k hk => by
      have := List.all_eq_true.1 hsz _ (DataW.weights_mem_each ht hd k hk)
      simpa using this
    have hlen40 : len * 40 ≤ 140737488351232 := by
      have := hall ((elems.length + rest.length) * 40) (by rw [hx]; simp [DataW.weights, hu, hBe])
      have h2 : (elems.length + rest.length) * 40 ≤ 140737488351232 := this
      omega
    have each : ∀ i, i < len → ∃ (r : Dd) (v : Value), DeedAt W (x.add (i * 5)) r v := by
      intro i hi
      have hE := hel i hi
      rw [hce, List.getElem?_eq_getElem (by omega), Option.bind_eq_some_iff] at hE
      obtain ⟨cs', hcs', hy⟩ := hE
      obtain ⟨y0, y1, y2, y3, y4, m, he, hl5, t0, t1, t2, t3, t4⟩ := trod_struct5 Try.underlying67 hy
      rw [hce] at hl5
      match cs', hl5 with
      | [c0, c1, c2, c3, c4], _ =>
        obtain ⟨k0, k1, k2, k3, k4⟩ := cells5 hcs'
        simp only [h1u, h1i, h1b, List.drop_zero, List.drop_succ_cons, List.take_succ_cons, List.take_zero] at t0 t1 t2 t3 t4
        obtain ⟨n0, e0, -, w0⟩ := DataW.trod_int Try.underlying5 t0
        obtain ⟨n1, e1, -, w1⟩ := DataW.trod_int Try.underlying5 t1
        obtain ⟨n2, e2, -, w2⟩ := DataW.trod_int Try.underlying5 t2
        obtain ⟨n3, e3, -, w3⟩ := DataW.trod_int Try.underlying3 t3
        injection e0 with e0; injection e1 with e1; injection e2 with e2; injection e3 with e3
        subst e0 e1 e2 e3
        obtain ⟨q0, hq0, rfl⟩ := u8_natW w0
        obtain ⟨q1, hq1, rfl⟩ := u8_natW w1
        obtain ⟨q2, hq2, rfl⟩ := u8_natW w2
        obtain ⟨v, b, e4, hv, hbl⟩ := open_one Try.underlying22 Try.underlying5 h1u hB1 t4 (fun k hk => hall k (by
          rw [hx]
          simp only [DataW.weights, hu, List.mem_cons, List.mem_append]
          right; left
          refine weights_mem_all (List.mem_map_of_mem (List.getElem_mem (show i < elems.length by omega))) k ?_
          rw [he]
          simp only [DataW.weights, Try.underlying67, DataW.weightsEach, List.map_cons, List.map_nil, List.mem_append]
          exact .inr (.inr (.inr (.inr (.inl hk))))))
        injection e4 with e4
        subst e4
        have ka : ∀ (y : Addr), y.add 0 = y := fun y => by unfold Addr.add; rw [if_pos rfl]
        have kb : ∀ (y : Addr) (i : Nat), y.add (i + 1) = ⟨y.block, y.off + (i + 1), none⟩ := fun y i => by unfold Addr.add; rw [if_neg (by omega)]
        rw [ka] at k0
        rw [kb] at k1 k2 k3 k4
        exact ⟨⟨q0, q1, q2, n3, b⟩, c4, World.block_lt_of_cell? W _ k0, k0, k1, k2, k3, k4, hv, hbl, ⟨hq0, hq1, hq2⟩, i64_rangeW w3⟩
    refine ⟨hlen40, ?_⟩
    have mk : ∀ k, k ≤ len → ∃ rs : List (Dd × Value), rs.length = k ∧ ∀ i (hi : i < rs.length), DeedAt W (x.add (i * 5)) rs[i].1 rs[i].2 := by
      intro k
      induction k with
      | zero => intro _; exact ⟨[], rfl, fun i hi => absurd hi (by simp)⟩
      | succ k ih =>
        intro hk
        obtain ⟨rs, h1, h2⟩ := ih (by omega)
        obtain ⟨r, v, h3⟩ := each k (by omega)
        refine ⟨rs ++ [(r, v)], by simp [h1], fun i hi => ?_⟩
        by_cases hik : i < rs.length
        · rw [List.getElem_append_left hik]; exact h2 i hik
        · have : i = rs.length := by simp at hi; omega
          subst this
          rw [List.getElem_append_right (Nat.le_refl _)]
          simp only [Nat.sub_self, List.getElem_cons_zero]
          rw [h1]
          exact h3
    obtain ⟨rs, h1, h2⟩ := mk len (Nat.le_refl _)
    exact ⟨rs, h1, .inr ⟨x, rfl, hl, hm, h2⟩⟩
end
end Go.Proofs.Ytdabflkejhoghaa.Hand
