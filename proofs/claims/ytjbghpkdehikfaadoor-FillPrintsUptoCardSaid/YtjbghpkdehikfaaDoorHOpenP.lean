/- fill: an argument that is a row of pairs, and its bulk. -/
import Derived.Test.YtjbghpkdehikfaaDoorProg
import Derived.Below
import Derived.Deep.Draws
import Derived.Deep.AppendLies
import Derived.Maps.AppendAt
import Derived.OwnWalk
import Derived.Laws.BytesArg
import Derived.Laws.MakeOwn
import Derived.Laws.OwnMore
import Derived.Deep.OwnRows
import Derived.Tactics
import Derived.Lib.ConvBytes
import Derived.Laws.Slices
import Derived.WalkKit
import Derived.KernelRfl
import Derived.RowKit3
import Derived.Deep.LoopGhost
import Derived.Deep.QuietTactic
import Derived.BigQuiet
import Derived.WideLaws
import Derived.Deep.DeepCutAuto
import Derived.Deep.CutBlock
import Derived.Deep.RegionHeld3
import Derived.Laws.Rows
import Derived.Lib.AppendStr
import Derived.ArgAppend
import Derived.Laws.IdiomCopy
import Derived.OrdersHeld
import Derived.Laws.BitsLemmas
import Derived.RowKit
import Derived.Test.YtjbghpkdehikfaaDoorWWords
import Derived.Test.YtjbghpkdehikfaaDoorWLast
import Derived.Test.YtjbghpkdehikfaaDoorWTab
import Derived.Test.YtjbghpkdehikfaaDoorWFour
import Derived.Test.YtjbghpkdehikfaaDoorWQPut
import Derived.Test.YtjbghpkdehikfaaDoorWApart
import Derived.Test.YtjbghpkdehikfaaDoorWArr
import Derived.Test.YtjbghpkdehikfaaDoorWZeros
import Derived.Test.YtjbghpkdehikfaaDoorWFoot
import Derived.Test.YtjbghpkdehikfaaDoorWKept
import Derived.Test.YtjbghpkdehikfaaDoorWShare
import Derived.Test.YtjbghpkdehikfaaDoorWN
import Derived.Test.YtjbghpkdehikfaaDoorWFootNe
import Derived.Test.YtjbghpkdehikfaaDoorWAt
import Derived.Test.YtjbghpkdehikfaaDoorWEqStruct
import Derived.Test.YtjbghpkdehikfaaDoorWRepsOne
import Derived.Test.YtjbghpkdehikfaaDoorWInv
import Derived.Test.YtjbghpkdehikfaaDoorWInvWords
import Derived.Test.YtjbghpkdehikfaaDoorWGuard
import Derived.Test.YtjbghpkdehikfaaDoorWNEv
import Derived.Test.YtjbghpkdehikfaaDoorWMore
import Derived.Outline
import Derived.Deep.SlicePairs
import Derived.ChangeArms
import Derived.SizedLaws
import Derived.Test.YtjbghpkdehikfaaDoorPureFillPrints
import Derived.Test.YtjbghpkdehikfaaDoorRows
namespace Go.Proofs.YtjbghpkdehikfaaDoor.Hand
open Go.RowKit Go.Shelf Go.Proofs.YtjbghpkdehikfaaDoorW.PrintWords Go.Proofs.YtjbghpkdehikfaaDoorW.PrintLast Go.Proofs.YtjbghpkdehikfaaDoorW.PrintMore
open Go.ChangeShapes Go.WideShapes
open Go.Proofs.YtjbghpkdehikfaaDoor.PFillPrints
set_option linter.unusedVariables false
set_option linter.unusedSimpArgs false
theorem mem_wAllP {H : Type} {P : Program} {e : TypeId} {d : DataW H} {n : Nat} : ∀ {ds : List (DataW H)}, d ∈ ds → n ∈ d.weights P e → n ∈ DataW.weightsAll P e ds
  | d0 :: ds, hd, hn => by
    simp only [DataW.weightsAll, List.mem_append]
    rcases List.mem_cons.1 hd with rfl | hd
    · exact .inl hn
    · exact .inr (mem_wAllP hd hn)
/-- an argument that is a row of pairs: its pairs, and how great they may be -/
theorem open_pairs_bulk {H : Type} {enc : TypeId × Value → H} {W : World} {base : Nat} {spare : Nat → Bool} {held : Bool} {a : Option Addr} {len cap : Nat} {d : DataW H} {ps : List MemPlace} {ts : List TypeId} {ds : List (DataW H)} {j : Nat}
    (hsz : (DataW.weightsEach Tryd.prog ts ds).all (· ≤ reachBytes) = true) (ht : ts[j]? = some 29) (hd : ds[j]? = some d) (h : DataW.Trod enc Tryd.prog W base spare held 29 (.slice a len cap) d ps) :
    ∃ l : List S32, l.length = len ∧ Kd.C k32 W a len l ∧ len ≤ cap ∧ len * 32 ≤ 140737488351232 ∧ (∀ x ∈ l, x.f0.size ≤ 140737488351232 ∧ x.f1.size ≤ 140737488351232) ∧ Pure.sumW l ≤ Rows.uptoBulk d := by
  have hin : ∀ n ∈ d.weights Tryd.prog 29, n ≤ 140737488351232 := fun n hn => by
    have := List.all_eq_true.1 hsz _ (DataW.weights_mem_each ht hd n hn)
    exact of_decide_eq_true (show decide (n ≤ reachBytes) = true from this)
  obtain ⟨fuel, hf⟩ := h
  rcases Go.Deep.open_slice_pairs Tryd.underlying29 Tryd.underlying32 (by kernel_rfl) rfl rfl (by kernel_rfl) (by kernel_rfl) hf with ⟨hcs, hx⟩ | ⟨x, l, c, m, n, V0, V1, D0, D1, P0, P1, hcs, hb, hl, hm, hmm, hx, hall⟩
  · simp [Value.cells] at hcs
    obtain ⟨rfl, rfl, rfl⟩ := hcs
    exact ⟨[], rfl, ⟨rfl, by omega, fun hp => absurd hp (by omega)⟩, by omega, by omega, (fun x hx => by cases hx), Nat.zero_le _⟩
  · simp [Value.cells] at hcs
    obtain ⟨rfl, rfl, rfl⟩ := hcs
    have hlm : len ≤ m := by rw [hmm]; split <;> omega
    have h0 : ∀ i, ∃ s : ByteArray, i < len → V0 i = .string s ∧ D0 i = .lit (.string s.data.toList) := fun i => by
      by_cases hi : i < len
      · obtain ⟨s, e1, e2, _⟩ := DataW.trod_string (show Tryd.prog.underlying 9 = some .string from Tryd.underlying9) (hall i (by omega)).2.2.1
        exact ⟨s, fun _ => ⟨(List.cons.inj e1).1, (Prod.mk.inj e2).1⟩⟩
      · exact ⟨ByteArray.empty, fun h => absurd h hi⟩
    have h1 : ∀ i, ∃ s : ByteArray, i < len → V1 i = .string s ∧ D1 i = .lit (.string s.data.toList) := fun i => by
      by_cases hi : i < len
      · obtain ⟨s, e1, e2, _⟩ := DataW.trod_string (show Tryd.prog.underlying 9 = some .string from Tryd.underlying9) (hall i (by omega)).2.2.2
        exact ⟨s, fun _ => ⟨(List.cons.inj e1).1, (Prod.mk.inj e2).1⟩⟩
      · exact ⟨ByteArray.empty, fun h => absurd h hi⟩
    obtain ⟨S0, hS0⟩ := Classical.axiomOfChoice h0
    obtain ⟨S1, hS1⟩ := Classical.axiomOfChoice h1
    obtain ⟨hx1, _⟩ := Prod.mk.inj hx
    have hbytes : Tryd.prog.bytesOf 32 = 32 := by kernel_rfl
    have hw : ∀ n, n ∈ (((List.range len).map fun i => DataW.agg [D0 i, D1 i]).length + ((List.range (m - len)).map fun j => DataW.agg [D0 (len + j), D1 (len + j)]).length) * Tryd.prog.bytesOf 32 :: (DataW.weightsAll Tryd.prog 32 ((List.range len).map fun i => DataW.agg [D0 i, D1 i]) ++ DataW.weightsAll Tryd.prog 32 ((List.range (m - len)).map fun j => DataW.agg [D0 (len + j), D1 (len + j)])) → n ≤ 140737488351232 := by
      intro n hn
      refine hin n ?_
      rw [hx1]
      rw [DataW.weights, Tryd.underlying29]
      exact hn
    have hstr : ∀ i, i < len → (S0 i).size ≤ 140737488351232 ∧ (S1 i).size ≤ 140737488351232 := by
      intro i hi
      have hmem : ∀ n, n ∈ (DataW.agg [D0 i, D1 i]).weights Tryd.prog 32 → n ≤ 140737488351232 := fun n hn =>
        hw n (List.mem_cons_of_mem _ (List.mem_append_left _ (mem_wAllP (List.mem_map.2 ⟨i, List.mem_range.2 hi, rfl⟩) hn)))
      have e : (DataW.agg [D0 i, D1 i]).weights Tryd.prog 32 = [(S0 i).data.toList.length, (S1 i).data.toList.length] := by
        rw [(hS0 i hi).2, (hS1 i hi).2, DataW.weights, Tryd.underlying32]
        simp [DataW.weightsEach, DataW.weights]
      rw [e] at hmem
      have g0 := hmem (S0 i).data.toList.length (by simp)
      have g1 := hmem (S1 i).data.toList.length (by simp)
      rw [Array.length_toList] at g0 g1
      exact ⟨g0, g1⟩
    refine ⟨(List.range len).map fun i => ⟨S0 i, S1 i⟩, by simp, ⟨by simp, by unfold maxLen at hm; omega, fun hp => ⟨x, rfl, fun j y hj => ?_⟩⟩, hl, ?_, ?_, ?_⟩
    · rw [List.getElem?_map] at hj
      obtain ⟨i, hi, rfl⟩ := Option.map_eq_some_iff.1 hj
      have hjl : j < len := by
        have := (List.getElem?_eq_some_iff.1 hi).1
        simpa using this
      obtain rfl : j = i := by
        rw [List.getElem?_range hjl] at hi
        exact Option.some.inj hi
      refine ⟨[.string (S0 j), .string (S1 j)], rfl, k32_mk W ⟨S0 j, S1 j⟩, fun i u hu => ?_⟩
      have hc := hall j (by omega)
      have hi2 : i < 2 := by
        have := (List.getElem?_eq_some_iff.1 hu).1
        simpa using this
      have c0 := hc.1
      have c1 := hc.2.1
      rw [(hS0 j hjl).1] at c0
      rw [(hS1 j hjl).1] at c1
      obtain rfl | rfl : i = 0 ∨ i = 1 := by omega
      · cases hu; exact c0
      · cases hu; exact c1
    · have := hw _ List.mem_cons_self
      simp only [List.length_map, List.length_range] at this
      rw [hbytes] at this
      omega
    · intro y hy
      obtain ⟨i, hi, rfl⟩ := List.mem_map.1 hy
      exact hstr i (List.mem_range.1 hi)
    · rw [hx1]
      have key : ∀ is : List Nat, (∀ i ∈ is, i < len) → Pure.sumW (is.map fun i => (⟨S0 i, S1 i⟩ : S32)) ≤ Rows.uptoBulkAll (is.map fun i => DataW.agg (H := H) [D0 i, D1 i]) := by
        intro is
        induction is with
        | nil => intro _; exact Nat.zero_le _
        | cons i is ih =>
          intro hi
          have h2 := ih (fun j hj => hi j (by simp [hj]))
          have hlt := hi i (by simp)
          rw [List.map_cons, List.map_cons, Pure.sumW_cons]
          have e : Rows.uptoBulk (DataW.agg (H := H) [D0 i, D1 i]) = (S0 i).size + 1 + ((S1 i).size + 1) + 1 := by
            rw [(hS0 i hlt).2, (hS1 i hlt).2]
            simp only [Rows.uptoBulk, Rows.uptoBulkAll, Array.length_toList]
            show _ = _
            have e0 : (S0 i).size = (S0 i).data.size := rfl
            have e1 : (S1 i).size = (S1 i).data.size := rfl
            omega
          have ew : Pure.wt (⟨S0 i, S1 i⟩ : S32) = 1 + (S0 i).size + (S1 i).size := rfl
          simp only [Rows.uptoBulkAll]
          rw [e, ew]
          omega
      have := key (List.range len) (fun i hi => List.mem_range.1 hi)
      simp only [Rows.uptoBulk]
      omega
end Go.Proofs.YtjbghpkdehikfaaDoor.Hand
