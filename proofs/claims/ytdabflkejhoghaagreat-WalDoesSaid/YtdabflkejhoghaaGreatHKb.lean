/- What comes in: slices of slices of bytes. -/
import Derived.Below
import Derived.Deep.Draws
import Derived.Deep.AppendLies
import Derived.Maps.AppendAt
import Derived.OwnWalk
import Derived.Laws.BytesArg
import Derived.Laws.MakeOwn
import Derived.Laws.OwnMore
import Derived.Deep.OwnRows
import Derived.Tactics
import Derived.Lib.ConvBytes
import Derived.Laws.Slices
import Derived.WalkKit
import Derived.KernelRfl
import Derived.RowKit3
import Derived.Deep.LoopGhost
import Derived.Deep.QuietTactic
import Derived.BigQuiet
import Derived.WideLaws
import Derived.Deep.DeepCutAuto
import Derived.Deep.CutBlock
import Derived.Deep.RegionHeld3
import Derived.Laws.Rows
import Derived.Lib.AppendStr
import Derived.ArgAppend
import Derived.Laws.IdiomCopy
import Derived.OrdersHeld
import Derived.Laws.BitsLemmas
import Derived.RowKit
import Derived.Outline
import Derived.Maps.Own
import Derived.Maps.OwnOps
import Derived.Maps.OwnSet
import Derived.Maps.Views
import Derived.Maps.RangeWalk
import Derived.Maps.Ext
import Derived.RangeFuncOwn
import Derived.OneCell
import Derived.Deep.DeepMust
import Derived.Lib.Hide
import Derived.StillTailTactics
import Derived.Laws.AppendOwnNone
import Derived.WalkMore
import Derived.Lib.SlBytesConst
import Derived.WalkLawsBesides
import Derived.Laws.BitsAllLaws
import Derived.Test.YtdabflkejhoghaaGreatHQf
namespace Go.Proofs.YtdabflkejhoghaaGreat.Hand
open Go Go.RowKit Go.Maps Go.WideMaps Go.ChangeShapes Go.WideShapes
set_option linter.unusedVariables false
set_option linter.unusedSimpArgs false
/-- a slice of bytes that came in -/
theorem row_bytesW {w : World} {a : Option Addr} {len cap : Nat} {zs : List Int} (h : (a = none ∧ len = 0 ∧ cap = 0 ∧ zs = []) ∨ ∃ x, a = some x ∧ len ≤ cap ∧ cap ≤ maxLen ∧ zs.length = cap ∧ (∀ i, i < zs.length → w.cell? (x.add i) = some (.int .u8 (zs.getD i 0))) ∧ ∀ n ∈ zs, (Lit.int .u8 n).wf = true) :
    ∃ b : List UInt8, b.length = len ∧ BytesV w (fun k => k < w.heap.size) (.slice a len cap) b := by
  rcases h with ⟨rfl, rfl, rfl, rfl⟩ | ⟨x, rfl, h1, h2, h3, h4, h5⟩
  · exact ⟨[], rfl, BytesV.nil w _⟩
  · obtain ⟨b, hb⟩ : ∃ b : List UInt8, b = (zs.take len).map fun z => UInt8.ofNat z.toNat := ⟨_, rfl⟩
    have hl : b.length = len := by rw [hb]; simp; omega
    have hc : ∀ j (hj : j < b.length), w.cell? (x.add j) = some (.int .u8 ((b[j]'hj).toNat : Int)) := by
      intro j hj
      have hz : j < zs.length := by omega
      rw [h4 j hz]
      have hw := h5 zs[j] (List.getElem_mem _)
      have hr : 0 ≤ zs[j] ∧ zs[j] ≤ 255 := by simpa [Lit.wf, IntKind.min, IntKind.max, IntKind.bits, IntKind.signed] using hw
      have e1 : zs.getD j 0 = zs[j] := by simp [hz]
      have e2 : ((b[j]'hj).toNat : Int) = zs[j] := by
        subst hb
        simp only [List.getElem_map, List.getElem_take, UInt8.toNat_ofNat']
        omega
      rw [e1, e2]
    refine ⟨b, hl, some x, cap, by rw [hl], by omega, by unfold maxLen at h2; exact h2, .inr ⟨x, rfl, fun hne => ?_, hc⟩⟩
    have h0 : 0 < b.length := by cases b with | nil => exact absurd rfl hne | cons y l => simp
    have hcell := hc 0 h0
    have hlt : x.block < w.heap.size := by
      rcases Nat.lt_or_ge x.block w.heap.size with hx | hx
      · exact hx
      · have e : (x.add 0).block = x.block := add_block _ _
        simp [World.cell?, e, Array.getElem?_eq_none hx] at hcell
    exact ⟨hlt, hlt⟩
theorem u8_natW {a : Int} (h : (Lit.int .u8 a).wf = true) : ∃ n : Nat, n < 256 ∧ a = (n : Int) := by
  have hr : 0 ≤ a ∧ a ≤ 255 := by simpa [Lit.wf, IntKind.min, IntKind.max, IntKind.bits, IntKind.signed] using h
  exact ⟨a.toNat, by omega, by omega⟩
theorem u16_natW {a : Int} (h : (Lit.int .u16 a).wf = true) : ∃ n : Nat, n < 65536 ∧ a = (n : Int) := by
  have hr : 0 ≤ a ∧ a ≤ 65535 := by simpa [Lit.wf, IntKind.min, IntKind.max, IntKind.bits, IntKind.signed] using h
  exact ⟨a.toNat, by omega, by omega⟩
/-- slices of bytes that came in, in a slice -/
def RowsV (w : World) (a : Option Addr) (len cap : Nat) (rs : List (Value × List UInt8)) : Prop := rs.length = len ∧ ((a = none ∧ len = 0 ∧ cap = 0) ∨ ∃ x, a = some x ∧ len ≤ cap ∧ cap ≤ maxLen ∧ ∀ i (hi : i < rs.length), w.cell? (x.add i) = some rs[i].1 ∧ x.block < w.heap.size ∧ BytesV w (fun k => k < w.heap.size) rs[i].1 rs[i].2 ∧ rs[i].2.length ≤ 140737488351232)
section
variable {H : Type} {enc : TypeId × Value → H} {P : Program} {W : World} {base : Nat} {spare : Nat → Bool} {held : Bool}
theorem weights_mem_all {e : TypeId} : ∀ {ds : List (DataW H)} {d : DataW H}, d ∈ ds → ∀ n ∈ d.weights P e, n ∈ DataW.weightsAll P e ds
  | d0 :: ds, d, h, n, hn => by
    simp only [DataW.weightsAll, List.mem_append]
    rcases List.mem_cons.1 h with rfl | h
    · exact .inl hn
    · exact .inr (weights_mem_all h n hn)
/-- a slice of bytes, out of what its cell reads as -/
theorem open_one {e u : TypeId} {n : Nat} {cs : List Value} {x : DataW H × List MemPlace} (he : P.underlying e = some (.slice u)) (hu : P.underlying u = some (.int .u8)) (hc : P.cellsOf u = 1) (hB : P.bytesOf u = 1)
    (h : DataW.trod enc P W base spare held n e cs = some x) (hw : ∀ k ∈ x.1.weights P e, k ≤ reachBytes) : ∃ (v : Value) (b : List UInt8), cs = [v] ∧ BytesV W (fun k => k < W.heap.size) v b ∧ b.length ≤ 140737488351232 := by
  rcases open_ints he hu hc h with ⟨rfl, _⟩ | ⟨a, len, cap, zs, rfl, _, hl, hm, hz, hx, hcell, hwf⟩
  · exact ⟨_, [], rfl, BytesV.nil _ _, by simp⟩
  · have hlz : len ≤ zs.length := by rw [hz]; split <;> omega
    have hlen : len ≤ 140737488351232 := by
      have := hw (zs.length) (by
        rw [hx]
        simp only [DataW.weights, he, hB, Nat.mul_one, List.mem_cons]
        left
        simp [lits]; omega)
      exact Nat.le_trans hlz this
    refine ⟨_, (zs.take len).map (fun z => UInt8.ofNat z.toNat), rfl, ?_, by simp; omega⟩
    have hbl : ((zs.take len).map (fun z => UInt8.ofNat z.toNat)).length = len := by simp; omega
    refine ⟨some a, cap, by rw [hbl], by rw [hbl]; exact hl, hm, .inr ⟨a, rfl, fun hne => ?_, fun j hj => ?_⟩⟩
    · have h0 : 0 < len := by
        cases len with
        | zero => simp at hne
        | succ => omega
      have := World.block_lt_of_cell? W _ (hcell 0 (by omega))
      rw [add_block] at this
      exact ⟨this, this⟩
    · rw [hbl] at hj
      rw [hcell j (by omega), List.getElem_map, List.getElem_take]
      have hz' : zs.getD j 0 = zs[j]'(by omega) := by simp [List.getD, List.getElem?_eq_getElem (show j < zs.length by omega)]
      obtain ⟨n, hn, e⟩ := u8_natW (hwf (zs[j]'(by omega)) (List.getElem_mem _))
      rw [hz', e]
      simp [UInt8.toNat_ofNat]
      omega
theorem open_rows {t e u : TypeId} {a : Option Addr} {len cap : Nat} {d : DataW H} {ps : List MemPlace} {ts : List TypeId} {ds : List (DataW H)} {j : Nat}
    (hsz : (DataW.weightsEach P ts ds).all (· ≤ reachBytes) = true) (ht : ts[j]? = some t) (hd : ds[j]? = some d) (hu : P.underlying t = some (.slice e)) (he : P.underlying e = some (.slice u)) (hub : P.underlying u = some (.int .u8)) (hce : P.cellsOf e = 1) (hc : P.cellsOf u = 1) (hB : P.bytesOf u = 1) (hBe : P.bytesOf e = 24)
    (h : DataW.Trod enc P W base spare held t (.slice a len cap) d ps) : len * 24 ≤ 140737488351232 ∧ ∃ rs, RowsV W a len cap rs := by
  obtain ⟨fuel, hf⟩ := h
  rcases DataW.trod_slice hu hf with ⟨hcs, _⟩ | ⟨x, l, c, elems, rest, n, _, hcs, hx, hb, hl, hm, hlen, hel, _⟩
  · simp [Value.cells] at hcs
    obtain ⟨rfl, rfl, rfl⟩ := hcs
    exact ⟨by omega, [], rfl, .inl ⟨rfl, rfl, rfl⟩⟩
  · simp [Value.cells] at hcs
    obtain ⟨rfl, rfl, rfl⟩ := hcs
    obtain ⟨hx, _⟩ := Prod.mk.inj hx
    have hall : ∀ k ∈ d.weights P t, k ≤ reachBytes := fun k hk => by
      have := List.all_eq_true.1 hsz _ (DataW.weights_mem_each ht hd k hk)
      simpa using this
    have hlen24 : len * 24 ≤ 140737488351232 := by
      have := hall ((elems.length + rest.length) * 24) (by rw [hx]; simp [DataW.weights, hu, hBe])
      have h2 : (elems.length + rest.length) * 24 ≤ 140737488351232 := this
      omega
    have each : ∀ i, i < len → ∃ v b, W.cell? (x.add i) = some v ∧ x.block < W.heap.size ∧ BytesV W (fun k => k < W.heap.size) v b ∧ b.length ≤ 140737488351232 := by
      intro i hi
      have hE := hel i hi
      rw [hce, Nat.mul_one, List.getElem?_eq_getElem (by omega), Option.bind_eq_some_iff] at hE
      obtain ⟨cs', hcs', hy⟩ := hE
      obtain ⟨v, b, rfl, hv, hbl⟩ := open_one he hub hc hB hy (fun k hk => hall k (by
        rw [hx]
        simp only [DataW.weights, hu, List.mem_cons, List.mem_append]
        right; left
        exact weights_mem_all (List.mem_map_of_mem (List.getElem_mem _)) k hk))
      have hcell := cell_of_cells?_one hcs'
      have hlt := World.block_lt_of_cell? W _ hcell
      rw [add_block] at hlt
      exact ⟨v, b, hcell, hlt, hv, hbl⟩
    refine ⟨hlen24, ?_⟩
    have mk : ∀ k, k ≤ len → ∃ rs : List (Value × List UInt8), rs.length = k ∧ ∀ i (hi : i < rs.length), W.cell? (x.add i) = some rs[i].1 ∧ x.block < W.heap.size ∧ BytesV W (fun k => k < W.heap.size) rs[i].1 rs[i].2 ∧ rs[i].2.length ≤ 140737488351232 := by
      intro k
      induction k with
      | zero => intro _; exact ⟨[], rfl, fun i hi => absurd hi (by simp)⟩
      | succ k ih =>
        intro hk
        obtain ⟨rs, h1, h2⟩ := ih (by omega)
        obtain ⟨v, b, h3, h4, h5, h6⟩ := each k (by omega)
        refine ⟨rs ++ [(v, b)], by simp [h1], fun i hi => ?_⟩
        by_cases hik : i < rs.length
        · rw [List.getElem_append_left hik]; exact h2 i hik
        · have : i = rs.length := by simp at hi; omega
          subst this
          rw [List.getElem_append_right (Nat.le_refl _)]
          simp only [Nat.sub_self, List.getElem_cons_zero]
          rw [h1]
          exact ⟨h3, h4, h5, h6⟩
    obtain ⟨rs, h1, h2⟩ := mk len (Nat.le_refl _)
    exact ⟨rs, h1, .inr ⟨x, rfl, hl, hm, h2⟩⟩
end
end Go.Proofs.YtdabflkejhoghaaGreat.Hand
