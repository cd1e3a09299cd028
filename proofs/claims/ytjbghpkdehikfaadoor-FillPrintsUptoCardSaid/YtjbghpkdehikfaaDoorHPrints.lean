/- fill: FillPrints' walk. -/
import Derived.Test.YtjbghpkdehikfaaDoorProg
import Derived.Below
import Derived.Deep.Draws
import Derived.Deep.AppendLies
import Derived.Maps.AppendAt
import Derived.OwnWalk
import Derived.Laws.BytesArg
import Derived.Laws.MakeOwn
import Derived.Laws.OwnMore
import Derived.Deep.OwnRows
import Derived.Tactics
import Derived.Lib.ConvBytes
import Derived.Laws.Slices
import Derived.WalkKit
import Derived.KernelRfl
import Derived.RowKit3
import Derived.Deep.LoopGhost
import Derived.Deep.QuietTactic
import Derived.BigQuiet
import Derived.WideLaws
import Derived.Deep.DeepCutAuto
import Derived.Deep.CutBlock
import Derived.Deep.RegionHeld3
import Derived.Laws.Rows
import Derived.Lib.AppendStr
import Derived.ArgAppend
import Derived.Laws.IdiomCopy
import Derived.OrdersHeld
import Derived.Laws.BitsLemmas
import Derived.RowKit
import Derived.Test.YtjbghpkdehikfaaDoorWWords
import Derived.Test.YtjbghpkdehikfaaDoorWLast
import Derived.Test.YtjbghpkdehikfaaDoorWTab
import Derived.Test.YtjbghpkdehikfaaDoorWFour
import Derived.Test.YtjbghpkdehikfaaDoorWQPut
import Derived.Test.YtjbghpkdehikfaaDoorWApart
import Derived.Test.YtjbghpkdehikfaaDoorWArr
import Derived.Test.YtjbghpkdehikfaaDoorWZeros
import Derived.Test.YtjbghpkdehikfaaDoorWFoot
import Derived.Test.YtjbghpkdehikfaaDoorWKept
import Derived.Test.YtjbghpkdehikfaaDoorWShare
import Derived.Test.YtjbghpkdehikfaaDoorWN
import Derived.Test.YtjbghpkdehikfaaDoorWFootNe
import Derived.Test.YtjbghpkdehikfaaDoorWAt
import Derived.Test.YtjbghpkdehikfaaDoorWEqStruct
import Derived.Test.YtjbghpkdehikfaaDoorWRepsOne
import Derived.Test.YtjbghpkdehikfaaDoorWInv
import Derived.Test.YtjbghpkdehikfaaDoorWInvWords
import Derived.Test.YtjbghpkdehikfaaDoorWGuard
import Derived.Test.YtjbghpkdehikfaaDoorWNEv
import Derived.Test.YtjbghpkdehikfaaDoorWMore
import Derived.Outline
import Derived.BigRegion
import Derived.Deep.SlicePairs
import Derived.ChangeArms
import Derived.SizedLaws
import Derived.Test.YtjbghpkdehikfaaDoorPureFillPrints
import Derived.Test.YtjbghpkdehikfaaDoorHRefP
import Derived.Test.YtjbghpkdehikfaaDoorHRows
import Derived.Test.YtjbghpkdehikfaaDoorHKnown
namespace Go.Proofs.YtjbghpkdehikfaaDoor.Hand
open Go.RowKit Go.Shelf Go.Proofs.YtjbghpkdehikfaaDoorW.PrintWords Go.Proofs.YtjbghpkdehikfaaDoorW.PrintLast Go.Proofs.YtjbghpkdehikfaaDoorW.PrintMore
open Go.ChangeShapes Go.WideShapes
open Go.Proofs.YtjbghpkdehikfaaDoor.PFillPrints
set_option linter.unusedVariables false
set_option linter.unusedSimpArgs false
theorem mem_wAll {H : Type} {P : Program} {e : TypeId} {d : DataW H} {n : Nat} : ∀ {ds : List (DataW H)}, d ∈ ds → n ∈ d.weights P e → n ∈ DataW.weightsAll P e ds
  | d0 :: ds, hd, hn => by
    simp only [DataW.weightsAll, List.mem_append]
    rcases List.mem_cons.1 hd with rfl | hd
    · exact .inl hn
    · exact .inr (mem_wAll hd hn)
/-- an argument that is a row of pairs: its pairs, and how great they may be -/
theorem open_pairs {H : Type} {enc : TypeId × Value → H} {W : World} {base : Nat} {spare : Nat → Bool} {held : Bool} {a : Option Addr} {len cap : Nat} {d : DataW H} {ps : List MemPlace} {ts : List TypeId} {ds : List (DataW H)} {j : Nat}
    (hsz : (DataW.weightsEach Tryd.prog ts ds).all (· ≤ reachBytes) = true) (ht : ts[j]? = some 29) (hd : ds[j]? = some d) (h : DataW.Trod enc Tryd.prog W base spare held 29 (.slice a len cap) d ps) :
    ∃ l : List S32, l.length = len ∧ Kd.C k32 W a len l ∧ len ≤ cap ∧ len * 32 ≤ 140737488351232 ∧ ∀ x ∈ l, x.f0.size ≤ 140737488351232 ∧ x.f1.size ≤ 140737488351232 := by
  have hin : ∀ n ∈ d.weights Tryd.prog 29, n ≤ 140737488351232 := fun n hn => by
    have := List.all_eq_true.1 hsz _ (DataW.weights_mem_each ht hd n hn)
    exact of_decide_eq_true (show decide (n ≤ reachBytes) = true from this)
  obtain ⟨fuel, hf⟩ := h
  rcases Go.Deep.open_slice_pairs Tryd.underlying29 Tryd.underlying32 (by kernel_rfl) rfl rfl (by kernel_rfl) (by kernel_rfl) hf with ⟨hcs, hx⟩ | ⟨x, l, c, m, n, V0, V1, D0, D1, P0, P1, hcs, hb, hl, hm, hmm, hx, hall⟩
  · simp [Value.cells] at hcs
    obtain ⟨rfl, rfl, rfl⟩ := hcs
    exact ⟨[], rfl, ⟨rfl, by omega, fun hp => absurd hp (by omega)⟩, by omega, by omega, fun x hx => by cases hx⟩
  · simp [Value.cells] at hcs
    obtain ⟨rfl, rfl, rfl⟩ := hcs
    have hlm : len ≤ m := by rw [hmm]; split <;> omega
    have h0 : ∀ i, ∃ s : ByteArray, i < len → V0 i = .string s ∧ D0 i = .lit (.string s.data.toList) := fun i => by
      by_cases hi : i < len
      · obtain ⟨s, e1, e2, _⟩ := DataW.trod_string (show Tryd.prog.underlying 9 = some .string from Tryd.underlying9) (hall i (by omega)).2.2.1
        exact ⟨s, fun _ => ⟨(List.cons.inj e1).1, (Prod.mk.inj e2).1⟩⟩
      · exact ⟨ByteArray.empty, fun h => absurd h hi⟩
    have h1 : ∀ i, ∃ s : ByteArray, i < len → V1 i = .string s ∧ D1 i = .lit (.string s.data.toList) := fun i => by
      by_cases hi : i < len
      · obtain ⟨s, e1, e2, _⟩ := DataW.trod_string (show Tryd.prog.underlying 9 = some .string from Tryd.underlying9) (hall i (by omega)).2.2.2
        exact ⟨s, fun _ => ⟨(List.cons.inj e1).1, (Prod.mk.inj e2).1⟩⟩
      · exact ⟨ByteArray.empty, fun h => absurd h hi⟩
    obtain ⟨S0, hS0⟩ := Classical.axiomOfChoice h0
    obtain ⟨S1, hS1⟩ := Classical.axiomOfChoice h1
    obtain ⟨hx1, _⟩ := Prod.mk.inj hx
    have hbytes : Tryd.prog.bytesOf 32 = 32 := by kernel_rfl
    have hw : ∀ n, n ∈ (((List.range len).map fun i => DataW.agg [D0 i, D1 i]).length + ((List.range (m - len)).map fun j => DataW.agg [D0 (len + j), D1 (len + j)]).length) * Tryd.prog.bytesOf 32 :: (DataW.weightsAll Tryd.prog 32 ((List.range len).map fun i => DataW.agg [D0 i, D1 i]) ++ DataW.weightsAll Tryd.prog 32 ((List.range (m - len)).map fun j => DataW.agg [D0 (len + j), D1 (len + j)])) → n ≤ 140737488351232 := by
      intro n hn
      refine hin n ?_
      rw [hx1]
      rw [DataW.weights, Tryd.underlying29]
      exact hn
    have hstr : ∀ i, i < len → (S0 i).size ≤ 140737488351232 ∧ (S1 i).size ≤ 140737488351232 := by
      intro i hi
      have hmem : ∀ n, n ∈ (DataW.agg [D0 i, D1 i]).weights Tryd.prog 32 → n ≤ 140737488351232 := fun n hn =>
        hw n (List.mem_cons_of_mem _ (List.mem_append_left _ (mem_wAll (List.mem_map.2 ⟨i, List.mem_range.2 hi, rfl⟩) hn)))
      have e : (DataW.agg [D0 i, D1 i]).weights Tryd.prog 32 = [(S0 i).data.toList.length, (S1 i).data.toList.length] := by
        rw [(hS0 i hi).2, (hS1 i hi).2, DataW.weights, Tryd.underlying32]
        simp [DataW.weightsEach, DataW.weights]
      rw [e] at hmem
      have g0 := hmem (S0 i).data.toList.length (by simp)
      have g1 := hmem (S1 i).data.toList.length (by simp)
      rw [Array.length_toList] at g0 g1
      exact ⟨g0, g1⟩
    refine ⟨(List.range len).map fun i => ⟨S0 i, S1 i⟩, by simp, ⟨by simp, by unfold maxLen at hm; omega, fun hp => ⟨x, rfl, fun j y hj => ?_⟩⟩, hl, ?_, ?_⟩
    · rw [List.getElem?_map] at hj
      obtain ⟨i, hi, rfl⟩ := Option.map_eq_some_iff.1 hj
      have hjl : j < len := by
        have := (List.getElem?_eq_some_iff.1 hi).1
        simpa using this
      obtain rfl : j = i := by
        rw [List.getElem?_range hjl] at hi
        exact Option.some.inj hi
      refine ⟨[.string (S0 j), .string (S1 j)], rfl, k32_mk W ⟨S0 j, S1 j⟩, fun i u hu => ?_⟩
      have hc := hall j (by omega)
      have hi2 : i < 2 := by
        have := (List.getElem?_eq_some_iff.1 hu).1
        simpa using this
      have c0 := hc.1
      have c1 := hc.2.1
      rw [(hS0 j hjl).1] at c0
      rw [(hS1 j hjl).1] at c1
      obtain rfl | rfl : i = 0 ∨ i = 1 := by omega
      · cases hu; exact c0
      · cases hu; exact c1
    · have := hw _ List.mem_cons_self
      simp only [List.length_map, List.length_range] at this
      rw [hbytes] at this
      omega
    · intro y hy
      obtain ⟨i, hi, rfl⟩ := List.mem_map.1 hy
      exact hstr i (List.mem_range.1 hi)
abbrev gP : S32 → ByteArray × ByteArray := fun x => (x.f0, x.f1)
theorem bigs (l : List S32) (M : Nat) (hM : 3 * M < 1000000) (h : ∀ x ∈ l, x.f0.size ≤ M ∧ x.f1.size ≤ M) : ∀ x ∈ l, 3 * (bl (gP x).1).length < 1000000 ∧ 3 * (bl (gP x).2).length < 1000000 := fun x hx => by
  have h1 := h x hx
  have e1 : (bl x.f0).length = x.f0.size := by simp [bl]
  have e2 : (bl x.f1).length = x.f1.size := by simp [bl]
  exact ⟨by show 3 * (bl x.f0).length < _; omega, by show 3 * (bl x.f1).length < _; omega⟩
set_option maxHeartbeats 12800000 in
set_option maxRecDepth 100000 in
theorem prints (A : Option Addr) (c : Nat) (l : List S32) (nm : ByteArray) (A2 : Option Addr) (c2 : Nat) (l2 : List Int) (k : Int) (w : World) (hC : Kd.C k32 w A l.length l) (hc : l.length ≤ c) (hl : l.length < 1000000000) (hsum : Pure.sumW l < 4611686018427387904)
    (hC2 : Kd.C (Kd.int .u8) w A2 l2.length l2) (hc2 : l2.length ≤ c2) (hb2 : Pure.BytesI l2) (hk : 0 ≤ k ∧ k < 256) :
    Calls Tryd.prog 7 #[.slice A l.length c, .string nm, .slice A2 l2.length c2, .int .u8 k] w fun e w' => e = .returned (.bool true) ∧ Below w.heap.size w w' := by
  have hh := Pure.heavy_f l (by omega) hsum (l.length + 1) (by omega)
  obtain ⟨hv, hhv⟩ : ∃ hv, decide (400 < Pure.sumW l) = hv := ⟨_, rfl⟩
  rw [hhv] at hh
  have cH : Calls Tryd.prog 19 #[.slice A l.length c] w fun e w' => e = .returned (.bool hv) ∧ Below w.heap.size w w' := (wicketmanlaw07_heavy.calls _ A c l hv w hC hc hh).mono fun e w' h => ⟨h.1, h.2.below⟩
  cases hv with
  | true =>
    clear hhv hh
    go_enter Tryd.func7, Tryd.ntmps7
    go_wp2_with (first
      | (go_at_call 10; ((with_reducible refine (known _).mono ?_); rintro e w2 ⟨rfl, hb2⟩; have HB2 := Aside0.mk (HB1.out.trans (hb2.mono HB1.out.size)); clear hb2))
      | (go_at_call 19; ((with_reducible refine cH.mono ?_); rintro e w1 ⟨rfl, hb1⟩; have HB1 := Aside0.mk hb1; clear hb1)))
    go_ret
    exact ⟨rfl, HB2.out⟩
  | false =>
    have hW3 : Pure.sumW l ≤ 400 := by
      have := of_decide_eq_false hhv
      omega
    have hsm : ∀ x ∈ l, x.f0.size ≤ 400 ∧ x.f1.size ≤ 400 := fun x hx => by
      have := Pure.sumW_mem l x hx
      omega
    have hl4 : l.length ≤ 400 := by have := Pure.sumW_len l; omega
    clear hhv hh hsum hW3
    by_cases h100 : (100 : Int) < (nm.size : Int)
    · have d1 : decide ((100 : Int) < (nm.size : Int)) = true := decide_eq_true h100
      clear h100
      go_enter Tryd.func7, Tryd.ntmps7
      go_wp2_with (first
        | (go_at_call 10; ((with_reducible refine (known _).mono ?_); rintro e w2 ⟨rfl, hb2⟩; have HB2 := Aside0.mk (HB1.out.trans (hb2.mono HB1.out.size)); clear hb2))
        | (go_at_call 19; ((with_reducible refine cH.mono ?_); rintro e w1 ⟨rfl, hb1⟩; have HB1 := Aside0.mk hb1; clear hb1)))
      go_ret
      exact ⟨rfl, HB2.out⟩
    · have d1 : decide ((100 : Int) < (nm.size : Int)) = false := decide_eq_false h100
      clear h100
      obtain ⟨p, hp, hpl, hps⟩ := Pure.pairs_f l2 hb2 100 (by omega)
      have hps4 : ∀ x ∈ p, x.f0.size ≤ 400 ∧ x.f1.size ≤ 400 := fun x hx => by
        have := hps x hx
        omega
      have cP : ∀ W, Below w.heap.size w W → Calls Tryd.prog 15 #[.slice A2 l2.length c2] W fun e w' => ∃ A c, e = .returned (.slice A p.length c) ∧ w'.ownsRow W.heap.size 32 2 (.slice A p.length c) p.length (pcG gP p) ∧ Below W.heap.size W w' := fun W hW => by
        refine (wicketmanlaw07_Pairs.calls 100 A2 c2 l2 p W (Kd.C_below hC2 hW) hc2 hp).mono ?_
        rintro e w' ⟨v, rfl, hR, hb⟩
        obtain ⟨A, c, rfl, _, _⟩ := Kd.R_reads hR
        exact ⟨A, c, rfl, own_of (g := gP) hR, hb⟩
      obtain ⟨L, hL⟩ : ∃ L, printR (l.map (prOf ∘ gP)) = L := ⟨_, rfl⟩
      obtain ⟨M, hM⟩ : ∃ M, printR (p.map (prOf ∘ gP)) = M := ⟨_, rfl⟩
      have s10 : ∀ x ∈ l, (gP x).1.size ≤ 10000 ∧ (gP x).2.size ≤ 10000 := fun x hx => by have := hsm x hx; exact ⟨by show x.f0.size ≤ _; omega, by show x.f1.size ≤ _; omega⟩
      have t10 : ∀ x ∈ p, (gP x).1.size ≤ 10000 ∧ (gP x).2.size ≤ 10000 := fun x hx => by have := hps4 x hx; exact ⟨by show x.f0.size ≤ _; omega, by show x.f1.size ≤ _; omega⟩
      have cL20 : ∀ X, Below w.heap.size w X → Calls Tryd.prog 20 #[.slice A l.length c] X fun e w' => ∃ b c', e = .returned (.slice (some ⟨b, 0, none⟩) L.length c') ∧ Bys w'.heap.size w' (some ⟨b, 0, none⟩) L ∧ Below X.heap.size X w' :=
        fun X hX => print_str (g := gP) A c l X (Kd.C_below hC hX) (by omega) (bigs l 400 (by omega) hsm) L hL
      have cL21 : ∀ X, Below w.heap.size w X → Calls Tryd.prog 21 #[.slice A l.length c] X fun e w' => ∃ b c', e = .returned (.slice (some ⟨b, 0, none⟩) L.length c') ∧ Bys w'.heap.size w' (some ⟨b, 0, none⟩) L ∧ Below X.heap.size X w' :=
        fun X hX => refPrint gP A c l X (Kd.C_below hC hX) (by omega) s10 L hL
      have cM20 : ∀ X A c B, X.ownsRow B 32 2 (.slice A p.length c) p.length (pcG gP p) → Calls Tryd.prog 20 #[.slice A p.length c] X fun e w' => ∃ b c', e = .returned (.slice (some ⟨b, 0, none⟩) M.length c') ∧ Bys w'.heap.size w' (some ⟨b, 0, none⟩) M ∧ Below X.heap.size X w' :=
        fun X A c B h => print_str (g := gP) A c p X (own_C h).1 (by omega) (bigs p 400 (by omega) hps4) M hM
      have cM21 : ∀ X A c B, X.ownsRow B 32 2 (.slice A p.length c) p.length (pcG gP p) → Calls Tryd.prog 21 #[.slice A p.length c] X fun e w' => ∃ b c', e = .returned (.slice (some ⟨b, 0, none⟩) M.length c') ∧ Bys w'.heap.size w' (some ⟨b, 0, none⟩) M ∧ Below X.heap.size X w' :=
        fun X A c B h => refPrint gP A c p X (own_C h).1 (by omega) t10 M hM
      have cGl : ∀ X, Below w.heap.size w X → Calls Tryd.prog 22 #[.slice A l.length c, .string nm] X fun e w' => e = .returned (.bool true) ∧ Below X.heap.size X w' :=
        fun X hX => (wicketmanlaw07_get.calls 1000 A c l nm true X (Kd.C_below hC hX) hc (Pure.lawget_f nm l (by omega) 1000 (by omega)))
      have cGm : ∀ X x A c B, X.ownsRow B 32 2 (.slice A p.length c) p.length (pcG gP p) → Calls Tryd.prog 22 #[.slice A p.length c, .string x] X fun e w' => e = .returned (.bool true) ∧ Below X.heap.size X w' :=
        fun X x A c B h => (wicketmanlaw07_get.calls 1000 A c p x true X (own_C h).1 (own_C h).2 (Pure.lawget_f x p (by omega) 1000 (by omega)))
      have heqL : ((⟨L.toArray⟩ : ByteArray).toList == (⟨L.toArray⟩ : ByteArray).toList) = true := by simp
      have heqM : ((⟨M.toArray⟩ : ByteArray).toList == (⟨M.toArray⟩ : ByteArray).toList) = true := by simp
      clear hp hL hM s10 t10 hsm hps hps4 hC hC2
      obtain ⟨bz, hbz⟩ : ∃ bz, decide ((0 : Int) < (p.length : Int)) = bz := ⟨_, rfl⟩
      have hbz' : decide (0 < p.length) = bz := by rw [← hbz]; exact decide_eq_decide.2 (by omega)
      have HZ := Aside0.mk hbz
      go_enter Tryd.func7, Tryd.ntmps7
      go_upto_if 28 with (first
        | (go_at_call 15; ((with_reducible refine (cP _ HB2.out).mono ?_); rintro e w3 ⟨A3, c3, rfl, ho3, hb3⟩; have HB3 := Aside0.mk (HB2.out.trans (hb3.mono HB2.out.size)); have hm3 := Aside0.mk ho3; clear hb3 ho3))
        | (go_at_call 10; ((with_reducible refine (known _).mono ?_); rintro e w2 ⟨rfl, hb2⟩; have HB2 := Aside0.mk (HB1.out.trans (hb2.mono HB1.out.size)); clear hb2))
        | (go_at_call 19; ((with_reducible refine cH.mono ?_); rintro e w1 ⟨rfl, hb1⟩; have HB1 := Aside0.mk hb1; clear hb1)))
      go_cut [10] from 29 to 37 (fun x wx => ∃ nn : ByteArray, x = .string nn ∧ Aside0 (wx.ownsRow w2.heap.size 32 2 (.slice A3 p.length c3) p.length (pcG gP p)) ∧ Aside0 (Below w.heap.size w wx))
      case first =>
        cases bz with
        | false =>
          go_wp2
          go_meet
          exact ⟨_, rfl, hm3, HB3⟩
        | true =>
          have h0 : 0 < p.length := by
            have := of_decide_eq_true HZ.out
            omega
          have e1 : ((p.length : Int) == 0) = false := beq_eq_false_iff_ne.2 (by omega)
          have e2 : wrap64 k = k := Pure.w64 k (by omega) (by omega)
          obtain ⟨j, hj⟩ : ∃ j : Int, Int.tmod k (p.length : Int) = j := ⟨_, rfl⟩
          have hj0 : 0 ≤ j := by rw [← hj, Int.tmod_eq_emod_of_nonneg hk.1]; exact Int.emod_nonneg _ (by omega)
          have hj1 : j < (p.length : Int) := by rw [← hj, Int.tmod_eq_emod_of_nonneg hk.1]; exact Int.emod_lt_of_pos _ (by omega)
          obtain ⟨b3, d3, hsl, hb3b, hb3l, hc3, hcell3⟩ := own_sl hm3.out (by omega)
          cases hsl
          obtain ⟨n, rfl⟩ := Int.eq_ofNat_of_zero_le hj0
          have hn : n < p.length := by omega
          have hcl : w3.cell? ⟨b3, n * 2, none⟩ = some (.string (p[n]'hn).f0) := by
            have := pcG_at (g := gP) p n (p[n]'hn) (List.getElem?_eq_getElem hn)
            have h2 : (pcG gP p)[n * 2]? = some (.string (p[n]'hn).f0) := by
              have h3 := congrArg (fun x => x[0]?) this
              simp only [List.getElem?_take, List.getElem?_drop] at h3
              simpa using h3
            have h4 := hcell3 (n * 2) _ h2
            rwa [show (⟨b3, 0, none⟩ : Addr).add (n * 2) = ⟨b3, n * 2, none⟩ by unfold Addr.add; split <;> simp_all] at h4
          obtain ⟨x1, hx1⟩ : ∃ x1, (p[n]'hn).f0 = x1 := ⟨_, rfl⟩
          rw [hx1] at hcl
          clear hcell3 hx1
          go_wp2
          go_meet
          exact ⟨_, rfl, hm3, HB3⟩
      case rest =>
        obtain ⟨nn, rfl, hmx, HBx⟩ := hcut
        go_upto_region 7 with fail
        have HBd := Aside0.mk HBx.out.drew
        have hmd := Aside0.mk (show wc.drew.ownsRow w2.heap.size 32 2 _ p.length (pcG gP p) from hmx.out)
        clear HB1 HB2 HB3 hm3 cH cP HBx hmx
        go_region_with (first
          | (go_at_call 22; ((with_reducible refine (cGm _ _ _ _ _ hm8.out).mono ?_); rintro e w9 ⟨rfl, hb9⟩; have HB9 := Aside0.mk (HB8.out.trans (hb9.mono HB8.out.size)); clear hb9))
          | (go_at_call 22; ((with_reducible refine (cGm _ _ _ _ _ hm7.out).mono ?_); rintro e w8 ⟨rfl, hb8⟩; have HB8 := Aside0.mk (HB7.out.trans (hb8.mono HB7.out.size)); have hm8 := Aside0.mk (own_bel hm7.out hb8); clear hb8))
          | (go_at_call 22; ((with_reducible refine (cGl _ HB6.out).mono ?_); rintro e w7 ⟨rfl, hb7⟩; have HB7 := Aside0.mk (HB6.out.trans (hb7.mono HB6.out.size)); have hm7 := Aside0.mk (own_bel hm6.out hb7); clear hb7))
          | (go_at_call 21; ((with_reducible refine (cM21 _ _ _ _ hm5.out).mono ?_); rintro e w6 ⟨q4, k4, rfl, hby4, hb6⟩; have HB6 := Aside0.mk (HB5.out.trans (hb6.mono HB5.out.size)); have hm6 := Aside0.mk (own_bel hm5.out hb6); have f3 := (hby3'.out.below hb6).conv k3; have f4 := hby4.conv k4; clear hb6 hby4))
          | (go_at_call 20; ((with_reducible refine (cM20 _ _ _ _ hm4.out).mono ?_); rintro e w5 ⟨q3, k3, rfl, hby3, hb5⟩; have HB5 := Aside0.mk (HB4.out.trans (hb5.mono HB4.out.size)); have hm5 := Aside0.mk (own_bel hm4.out hb5); have f2 := hby3.conv k3; have hby3' := Aside0.mk hby3; clear hb5 hby3))
          | (go_at_call 21; ((with_reducible refine (cL21 _ HBc.out).mono ?_); rintro e w4 ⟨q2, k2, rfl, hby2, hb4⟩; have HB4 := Aside0.mk (HBc.out.trans (hb4.mono HBc.out.size)); have hm4 := Aside0.mk (own_bel hmc.out hb4); have f0 := (hby1'.out.below hb4).conv k1; have f1 := hby2.conv k2; clear hb4 hby2))
          | (go_at_call 20; ((with_reducible refine (cL20 _ HBd.out).mono ?_); rintro e wy ⟨q1, k1, rfl, hby1, hbc⟩; have HBc := Aside0.mk (HBd.out.trans (hbc.mono HBd.out.size)); have hmc := Aside0.mk (own_bel hmd.out hbc); have g0 := hby1.conv k1; have hby1' := Aside0.mk hby1; clear hbc hby1)))
        all_goals go_wp2
        all_goals go_ret
        all_goals exact ⟨by first | rfl | simp, HB9.out⟩
theorem fillPrints_row (a0 : Option Addr) (len0 cap0 : Nat) (l : List S32) (a1 : ByteArray) (a2 : Option Addr) (len2 cap2 : Nat) (z2 : List Int) (a3 : Int) (w : World) (e0 : l.length = len0) (hC : Kd.C k32 w a0 len0 l) (hc : len0 ≤ cap0) (y0 : len0 < 1000000000) (w0 : Pure.sumW l < 4611686018427387904)
    (w2 : (a2 = none ∧ len2 = 0 ∧ cap2 = 0 ∧ z2 = []) ∨ ∃ x, a2 = some x ∧ len2 ≤ cap2 ∧ cap2 ≤ maxLen ∧ z2.length = cap2 ∧ (∀ i, i < z2.length → w.cell? (x.add i) = some (.int .u8 (z2.getD i 0))) ∧ ∀ n ∈ z2, (Lit.int .u8 n).wf = true) (w3 : (Lit.int .u8 a3).wf = true) :
    Calls Tryd.prog 7 #[.slice a0 len0 cap0, .string a1, .slice a2 len2 cap2, .int .u8 a3] w fun e w' => e = .returned (.bool true) ∧ Below w.heap.size w w' := by
  subst e0
  obtain ⟨l2, rfl, hr2, hm2, hw2, hc2⟩ := ReadsInt.ofRowC w2
  exact prints a0 cap0 l a1 a2 cap2 l2 a3 w hC hc y0 w0 (Kd.C_of_reads (d := (0 : Int)) (h1 := fun _ => rfl) hr2) hc2 (Pure.bytes_of_wf hw2) (Pure.bytes_of_wf (l := [a3]) (fun x hx => by rw [List.mem_singleton.1 hx]; exact w3) a3 (by simp))
end Go.Proofs.YtjbghpkdehikfaaDoor.Hand
