/- The log's law: deeds that came in; heavy. -/
import Derived.Below
import Derived.Deep.Draws
import Derived.Deep.AppendLies
import Derived.Maps.AppendAt
import Derived.OwnWalk
import Derived.Laws.BytesArg
import Derived.Laws.MakeOwn
import Derived.Laws.OwnMore
import Derived.Deep.OwnRows
import Derived.Tactics
import Derived.Lib.ConvBytes
import Derived.Laws.Slices
import Derived.WalkKit
import Derived.KernelRfl
import Derived.RowKit3
import Derived.Deep.LoopGhost
import Derived.Deep.QuietTactic
import Derived.BigQuiet
import Derived.WideLaws
import Derived.Deep.DeepCutAuto
import Derived.Deep.CutBlock
import Derived.Deep.RegionHeld3
import Derived.Laws.Rows
import Derived.Lib.AppendStr
import Derived.ArgAppend
import Derived.Laws.IdiomCopy
import Derived.OrdersHeld
import Derived.Laws.BitsLemmas
import Derived.RowKit
import Derived.Outline
import Derived.Maps.Own
import Derived.Maps.OwnOps
import Derived.Maps.OwnSet
import Derived.Maps.Views
import Derived.Maps.RangeWalk
import Derived.Maps.Ext
import Derived.RangeFuncOwn
import Derived.OneCell
import Derived.Deep.DeepMust
import Derived.Lib.Hide
import Derived.StillTailTactics
import Derived.Laws.AppendOwnNone
import Derived.WalkMore
import Derived.Lib.SlBytesConst
import Derived.WalkLawsBesides
import Derived.Laws.BitsAllLaws
import Derived.Test.YtdabflkejhoghaaGreatHWa
import Derived.Test.YtdabflkejhoghaaGreatHKb
namespace Go.Proofs.YtdabflkejhoghaaGreat.Hand
open Go Go.RowKit Go.Maps Go.WideMaps Go.ChangeShapes Go.WideShapes
set_option linter.unusedVariables false
set_option linter.unusedSimpArgs false
/-- a deed: its kind, its number, its bytes -/
structure De where
  k : Nat
  n : Int
  b : List UInt8
structure DeAt (w : World) (y : Addr) (r : De) (v : Value) : Prop where
  lt : y.block < w.heap.size
  c0 : w.cell? y = some (.int .u8 (r.k : Int))
  c1 : w.cell? ⟨y.block, y.off + 1, none⟩ = some (.int .i64 r.n)
  c2 : w.cell? ⟨y.block, y.off + 2, none⟩ = some v
  bytes : BytesV w (fun k => k < w.heap.size) v r.b
  short : r.b.length ≤ 140737488351232
  rk : r.k < 256
  rn : -9223372036854775808 ≤ r.n ∧ r.n ≤ 9223372036854775807
def DesV (w : World) (a : Option Addr) (len cap : Nat) (rs : List (De × Value)) : Prop := rs.length = len ∧ ((a = none ∧ len = 0 ∧ cap = 0) ∨ ∃ x, a = some x ∧ len ≤ cap ∧ cap ≤ maxLen ∧ ∀ i (hi : i < rs.length), DeAt w (x.add (i * 3)) rs[i].1 rs[i].2)
theorem DesV.at {w : World} {a : Option Addr} {len cap : Nat} {rs : List (De × Value)} (h : DesV w a len cap rs) (i : Nat) (hi : i < rs.length) : ∃ x, a = some x ∧ x.block < w.heap.size ∧ DeAt w (x.add (i * 3)) rs[i].1 rs[i].2 := by
  obtain ⟨h1, h2⟩ := h
  rcases h2 with ⟨_, h3, _⟩ | ⟨x, rfl, _, _, h3⟩
  · omega
  · exact ⟨x, rfl, by have := (h3 i hi).lt; rwa [add_block] at this, h3 i hi⟩
/-- the weight of the first k deeds, as the machine reckons it -/
def weighs14 (rs : List (De × Value)) : Nat → Int
  | 0 => 0
  | k + 1 => wrap64 (weighs14 rs k + wrap64 (2 + ((rs.getD k (⟨0, 0, []⟩, .pointer none)).1.b.length : Int)))
set_option maxHeartbeats 1600000 in
set_option maxRecDepth 100000 in
theorem l14heavy (a : Option Addr) (len cap : Nat) (rs : List (De × Value)) (w : World) (h : DesV w a len cap rs) (hl : len * 40 ≤ 140737488351232) :
    Calls Tryz.prog 4 #[.slice a len cap] w fun e w' => e = .returned (.bool (decide (500 < weighs14 rs len))) ∧ w' = w := by
  have HH := Lib.hid h
  have HL := Lib.hid h.1
  clear h
  go_enter Tryz.func4, Tryz.ntmps4
  go_wp2
  go_loopw [3, 4] (fun n i wr => ∃ k : Nat, k ≤ len ∧ n = .int .i64 (weighs14 rs k) ∧ i = .int .i64 (k : Int) ∧ wr = w) (fun _ i _ => len - (intOf i).toNat)
  case atStart => exact ⟨0, by omega, rfl, rfl, rfl⟩
  case round =>
    obtain ⟨k, hk, rfl, rfl, rfl⟩ := hrel
    by_cases hlt : k < len
    · have hkL : k < rs.length := by rw [HL.out]; exact hlt
      obtain ⟨x, rfl, hx, hd⟩ := HH.out.at k hkL
      obtain ⟨bo, bc, hve, -, -, -⟩ := id hd.bytes
      have c2 := hd.c2
      rw [hve] at c2
      have hkI : (k : Int) < (len : Int) := by omega
      have hk0 : (0 : Int) ≤ (k : Int) := by omega
      go_wp2
      go_roundw
      case rel => exact ⟨k + 1, by omega, by show _ = Value.int IntKind.i64 (wrap64 (weighs14 rs k + wrap64 (2 + ((rs.getD k (⟨0, 0, []⟩, .pointer none)).1.b.length : Int)))); simp [List.getD, List.getElem?_eq_getElem hkL], by go_num, by first | rfl | trivial⟩
      case measure => simp [intOf]; omega
    · have hkl : k = len := by omega
      subst hkl
      go_wp2
      go_ret
      exact ⟨rfl, rfl⟩
section
variable {H : Type} {enc : TypeId × Value → H} {P : Program} {W : World} {base : Nat} {spare : Nat → Bool} {held : Bool}
theorem cellsN3 {w : World} {base : Nat} {a : Addr} {c0 c1 c2 : Value} (h : w.cells? base a 3 = some [c0, c1, c2]) : w.cell? (a.add 0) = some c0 ∧ w.cell? (a.add 1) = some c1 ∧ w.cell? (a.add 2) = some c2 := by
  unfold World.cells? at h
  split at h
  · exact ⟨mapM_some_get h 0 0 rfl, mapM_some_get h 1 1 rfl, mapM_some_get h 2 2 rfl⟩
  · cases h
theorem trod_struct3h {t : TypeId} {f0 f1 f2 : Field} {fuel : Nat} {cs : List Value} {x : DataW H × List MemPlace} (ht : P.underlying t = some (.struct #[f0, f1, f2])) (h : DataW.trod enc P W base spare held fuel t cs = some x) :
    ∃ y0 y1 y2 n, x = (.agg [y0.1, y1.1, y2.1], y0.2 ++ (y1.2 ++ y2.2)) ∧ cs.length = P.cellsOf t ∧ DataW.trod enc P W base spare held n f0.type ((cs.drop f0.offset).take (P.cellsOf f0.type)) = some y0 ∧
      DataW.trod enc P W base spare held n f1.type ((cs.drop f1.offset).take (P.cellsOf f1.type)) = some y1 ∧ DataW.trod enc P W base spare held n f2.type ((cs.drop f2.offset).take (P.cellsOf f2.type)) = some y2 := by
  obtain ⟨xs, n, _, rfl, hl, hlen, hf⟩ := DataW.trod_struct ht h
  match xs, hlen with
  | [y0, y1, y2], _ => exact ⟨y0, y1, y2, n, by simp, hl, by simpa using hf 0 f0 rfl, by simpa using hf 1 f1 rfl, by simpa using hf 2 f2 rfl⟩
theorem i64_rangeW {a : Int} (h : (Lit.int .i64 a).wf = true) : -9223372036854775808 ≤ a ∧ a ≤ 9223372036854775807 := by
  simpa [Lit.wf, IntKind.min, IntKind.max, IntKind.bits, IntKind.signed] using h
set_option maxRecDepth 100000 in
theorem open_deeds {a : Option Addr} {len cap : Nat} {d : DataW H} {ps : List MemPlace} {ts : List TypeId} {ds : List (DataW H)} {j : Nat}
    (hsz : (DataW.weightsEach Tryz.prog ts ds).all (· ≤ reachBytes) = true) (ht : ts[j]? = some 23) (hd : ds[j]? = some d)
    (h : DataW.Trod enc Tryz.prog W base spare held 23 (.slice a len cap) d ps) : len * 40 ≤ 140737488351232 ∧ ∃ rs, DesV W a len cap rs := by
  have hu : Tryz.prog.underlying 23 = some (.slice 41) := Tryz.underlying23
  have hce : Tryz.prog.cellsOf 41 = 3 := by kernel_rfl
  have hBe : Tryz.prog.bytesOf 41 = 40 := by kernel_rfl
  have h1u : Tryz.prog.cellsOf 5 = 1 := by kernel_rfl
  have h1i : Tryz.prog.cellsOf 3 = 1 := by kernel_rfl
  have h1b : Tryz.prog.cellsOf 39 = 1 := by kernel_rfl
  have hB1 : Tryz.prog.bytesOf 5 = 1 := by kernel_rfl
  obtain ⟨fuel, hf⟩ := h
  rcases DataW.trod_slice hu hf with ⟨hcs, _⟩ | ⟨x, l, c, elems, rest, n, _, hcs, hx, hb, hl, hm, hlen, hel, _⟩
  · simp [Value.cells] at hcs
    obtain ⟨rfl, rfl, rfl⟩ := hcs
    exact ⟨by omega, [], rfl, .inl ⟨rfl, rfl, rfl⟩⟩
  · simp [Value.cells] at hcs
    obtain ⟨rfl, rfl, rfl⟩ := hcs
    obtain ⟨hx, _⟩ := Prod.mk.inj hx
    have hall : ∀ k ∈ d.weights Tryz.prog 23, k ≤ reachBytes := fun k hk => by
      have := List.all_eq_true.1 hsz _ (DataW.weights_mem_each ht hd k hk)
      simpa using this
    have hlen40 : len * 40 ≤ 140737488351232 := by
      have := hall ((elems.length + rest.length) * 40) (by rw [hx]; simp [DataW.weights, hu, hBe])
      have h2 : (elems.length + rest.length) * 40 ≤ 140737488351232 := this
      omega
    have each : ∀ i, i < len → ∃ (r : De) (v : Value), DeAt W (x.add (i * 3)) r v := by
      intro i hi
      have hE := hel i hi
      rw [hce, List.getElem?_eq_getElem (by omega), Option.bind_eq_some_iff] at hE
      obtain ⟨cs', hcs', hy⟩ := hE
      obtain ⟨y0, y1, y2, m, he, hl5, t0, t1, t2⟩ := trod_struct3h Tryz.underlying41 hy
      rw [hce] at hl5
      match cs', hl5 with
      | [c0, c1, c2], _ =>
        obtain ⟨k0, k1, k2⟩ := cellsN3 hcs'
        simp only [h1u, h1i, h1b, List.drop_zero, List.drop_succ_cons, List.take_succ_cons, List.take_zero] at t0 t1 t2
        obtain ⟨n0, e0, -, w0⟩ := DataW.trod_int Tryz.underlying5 t0
        obtain ⟨n1, e1, -, w1⟩ := DataW.trod_int Tryz.underlying3 t1
        injection e0 with e0; injection e1 with e1
        subst e0 e1
        obtain ⟨q0, hq0, rfl⟩ := u8_natW w0
        obtain ⟨v, b, e4, hv, hbl⟩ := open_one Tryz.underlying39 Tryz.underlying5 h1u hB1 t2 (fun k hk => hall k (by
          rw [hx]
          simp only [DataW.weights, hu, List.mem_cons, List.mem_append]
          right; left
          refine weights_mem_all (List.mem_map_of_mem (List.getElem_mem (show i < elems.length by omega))) k ?_
          rw [he]
          simp only [DataW.weights, Tryz.underlying41, DataW.weightsEach, List.map_cons, List.map_nil, List.mem_append]
          exact .inr (.inr (.inl hk))))
        injection e4 with e4
        subst e4
        have ka : ∀ (y : Addr), y.add 0 = y := fun y => by unfold Addr.add; rw [if_pos rfl]
        have kb : ∀ (y : Addr) (i : Nat), y.add (i + 1) = ⟨y.block, y.off + (i + 1), none⟩ := fun y i => by unfold Addr.add; rw [if_neg (by omega)]
        rw [ka] at k0
        rw [kb] at k1 k2
        exact ⟨⟨q0, n1, b⟩, c2, World.block_lt_of_cell? W _ k0, k0, k1, k2, hv, hbl, hq0, i64_rangeW w1⟩
    refine ⟨hlen40, ?_⟩
    have mk : ∀ k, k ≤ len → ∃ rs : List (De × Value), rs.length = k ∧ ∀ i (hi : i < rs.length), DeAt W (x.add (i * 3)) rs[i].1 rs[i].2 := by
      intro k
      induction k with
      | zero => intro _; exact ⟨[], rfl, fun i hi => absurd hi (by simp)⟩
      | succ k ih =>
        intro hk
        obtain ⟨rs, h1, h2⟩ := ih (by omega)
        obtain ⟨r, v, h3⟩ := each k (by omega)
        refine ⟨rs ++ [(r, v)], by simp [h1], fun i hi => ?_⟩
        by_cases hik : i < rs.length
        · rw [List.getElem_append_left hik]; exact h2 i hik
        · have : i = rs.length := by simp at hi; omega
          subst this
          rw [List.getElem_append_right (Nat.le_refl _)]
          simp only [Nat.sub_self, List.getElem_cons_zero]
          rw [h1]
          exact h3
    obtain ⟨rs, h1, h2⟩ := mk len (Nat.le_refl _)
    exact ⟨rs, h1, .inr ⟨x, rfl, hl, hm, h2⟩⟩
end
end Go.Proofs.YtdabflkejhoghaaGreat.Hand
