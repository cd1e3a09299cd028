/- fill: FillBack's walk. -/
import Derived.Test.YtjbghpkdehikfaaDoorProg
import Derived.Below
import Derived.Deep.Draws
import Derived.Deep.AppendLies
import Derived.Maps.AppendAt
import Derived.OwnWalk
import Derived.Laws.BytesArg
import Derived.Laws.MakeOwn
import Derived.Laws.OwnMore
import Derived.Deep.OwnRows
import Derived.Tactics
import Derived.Lib.ConvBytes
import Derived.Laws.Slices
import Derived.WalkKit
import Derived.KernelRfl
import Derived.RowKit3
import Derived.Deep.LoopGhost
import Derived.Deep.QuietTactic
import Derived.BigQuiet
import Derived.WideLaws
import Derived.Deep.DeepCutAuto
import Derived.Deep.CutBlock
import Derived.Deep.RegionHeld3
import Derived.Laws.Rows
import Derived.Lib.AppendStr
import Derived.ArgAppend
import Derived.Laws.IdiomCopy
import Derived.OrdersHeld
import Derived.Laws.BitsLemmas
import Derived.RowKit
import Derived.Test.YtjbghpkdehikfaaDoorWWords
import Derived.Test.YtjbghpkdehikfaaDoorWLast
import Derived.Test.YtjbghpkdehikfaaDoorWTab
import Derived.Test.YtjbghpkdehikfaaDoorWFour
import Derived.Test.YtjbghpkdehikfaaDoorWQPut
import Derived.Test.YtjbghpkdehikfaaDoorWApart
import Derived.Test.YtjbghpkdehikfaaDoorWArr
import Derived.Test.YtjbghpkdehikfaaDoorWZeros
import Derived.Test.YtjbghpkdehikfaaDoorWFoot
import Derived.Test.YtjbghpkdehikfaaDoorWKept
import Derived.Test.YtjbghpkdehikfaaDoorWShare
import Derived.Test.YtjbghpkdehikfaaDoorWN
import Derived.Test.YtjbghpkdehikfaaDoorWFootNe
import Derived.Test.YtjbghpkdehikfaaDoorWAt
import Derived.Test.YtjbghpkdehikfaaDoorWEqStruct
import Derived.Test.YtjbghpkdehikfaaDoorWRepsOne
import Derived.Test.YtjbghpkdehikfaaDoorWInv
import Derived.Test.YtjbghpkdehikfaaDoorWInvWords
import Derived.Test.YtjbghpkdehikfaaDoorWGuard
import Derived.Test.YtjbghpkdehikfaaDoorWNEv
import Derived.Test.YtjbghpkdehikfaaDoorWMore
import Derived.Outline
import Derived.BigRegion
import Derived.Deep.SlicePairs
import Derived.ChangeArms
import Derived.SizedLaws
import Derived.Test.YtjbghpkdehikfaaDoorPureFillBack
import Derived.Test.YtjbghpkdehikfaaDoorHRows
import Derived.Test.YtjbghpkdehikfaaDoorHKnown
namespace Go.Proofs.YtjbghpkdehikfaaDoor.Hand
open Go.RowKit Go.Shelf Go.Proofs.YtjbghpkdehikfaaDoorW.PrintWords Go.Proofs.YtjbghpkdehikfaaDoorW.PrintLast Go.Proofs.YtjbghpkdehikfaaDoorW.PrintMore
open Go.ChangeShapes Go.WideShapes
open Go.Proofs.YtjbghpkdehikfaaDoor.PFillBack
set_option linter.unusedVariables false
set_option linter.unusedSimpArgs false
theorem mem_wAll {H : Type} {P : Program} {e : TypeId} {d : DataW H} {n : Nat} : ∀ {ds : List (DataW H)}, d ∈ ds → n ∈ d.weights P e → n ∈ DataW.weightsAll P e ds
  | d0 :: ds, hd, hn => by
    simp only [DataW.weightsAll, List.mem_append]
    rcases List.mem_cons.1 hd with rfl | hd
    · exact .inl hn
    · exact .inr (mem_wAll hd hn)
/-- an argument that is a row of pairs: its pairs, and how great they may be -/
theorem open_pairs {H : Type} {enc : TypeId × Value → H} {W : World} {base : Nat} {spare : Nat → Bool} {held : Bool} {a : Option Addr} {len cap : Nat} {d : DataW H} {ps : List MemPlace} {ts : List TypeId} {ds : List (DataW H)} {j : Nat}
    (hsz : (DataW.weightsEach Tryd.prog ts ds).all (· ≤ reachBytes) = true) (ht : ts[j]? = some 29) (hd : ds[j]? = some d) (h : DataW.Trod enc Tryd.prog W base spare held 29 (.slice a len cap) d ps) :
    ∃ l : List S32, l.length = len ∧ Kd.C k32 W a len l ∧ len ≤ cap ∧ len * 32 ≤ 140737488351232 ∧ ∀ x ∈ l, x.f0.size ≤ 140737488351232 ∧ x.f1.size ≤ 140737488351232 := by
  have hin : ∀ n ∈ d.weights Tryd.prog 29, n ≤ 140737488351232 := fun n hn => by
    have := List.all_eq_true.1 hsz _ (DataW.weights_mem_each ht hd n hn)
    exact of_decide_eq_true (show decide (n ≤ reachBytes) = true from this)
  obtain ⟨fuel, hf⟩ := h
  rcases Go.Deep.open_slice_pairs Tryd.underlying29 Tryd.underlying32 (by kernel_rfl) rfl rfl (by kernel_rfl) (by kernel_rfl) hf with ⟨hcs, hx⟩ | ⟨x, l, c, m, n, V0, V1, D0, D1, P0, P1, hcs, hb, hl, hm, hmm, hx, hall⟩
  · simp [Value.cells] at hcs
    obtain ⟨rfl, rfl, rfl⟩ := hcs
    exact ⟨[], rfl, ⟨rfl, by omega, fun hp => absurd hp (by omega)⟩, by omega, by omega, fun x hx => by cases hx⟩
  · simp [Value.cells] at hcs
    obtain ⟨rfl, rfl, rfl⟩ := hcs
    have hlm : len ≤ m := by rw [hmm]; split <;> omega
    have h0 : ∀ i, ∃ s : ByteArray, i < len → V0 i = .string s ∧ D0 i = .lit (.string s.data.toList) := fun i => by
      by_cases hi : i < len
      · obtain ⟨s, e1, e2, _⟩ := DataW.trod_string (show Tryd.prog.underlying 9 = some .string from Tryd.underlying9) (hall i (by omega)).2.2.1
        exact ⟨s, fun _ => ⟨(List.cons.inj e1).1, (Prod.mk.inj e2).1⟩⟩
      · exact ⟨ByteArray.empty, fun h => absurd h hi⟩
    have h1 : ∀ i, ∃ s : ByteArray, i < len → V1 i = .string s ∧ D1 i = .lit (.string s.data.toList) := fun i => by
      by_cases hi : i < len
      · obtain ⟨s, e1, e2, _⟩ := DataW.trod_string (show Tryd.prog.underlying 9 = some .string from Tryd.underlying9) (hall i (by omega)).2.2.2
        exact ⟨s, fun _ => ⟨(List.cons.inj e1).1, (Prod.mk.inj e2).1⟩⟩
      · exact ⟨ByteArray.empty, fun h => absurd h hi⟩
    obtain ⟨S0, hS0⟩ := Classical.axiomOfChoice h0
    obtain ⟨S1, hS1⟩ := Classical.axiomOfChoice h1
    obtain ⟨hx1, _⟩ := Prod.mk.inj hx
    have hbytes : Tryd.prog.bytesOf 32 = 32 := by kernel_rfl
    have hw : ∀ n, n ∈ (((List.range len).map fun i => DataW.agg [D0 i, D1 i]).length + ((List.range (m - len)).map fun j => DataW.agg [D0 (len + j), D1 (len + j)]).length) * Tryd.prog.bytesOf 32 :: (DataW.weightsAll Tryd.prog 32 ((List.range len).map fun i => DataW.agg [D0 i, D1 i]) ++ DataW.weightsAll Tryd.prog 32 ((List.range (m - len)).map fun j => DataW.agg [D0 (len + j), D1 (len + j)])) → n ≤ 140737488351232 := by
      intro n hn
      refine hin n ?_
      rw [hx1]
      rw [DataW.weights, Tryd.underlying29]
      exact hn
    have hstr : ∀ i, i < len → (S0 i).size ≤ 140737488351232 ∧ (S1 i).size ≤ 140737488351232 := by
      intro i hi
      have hmem : ∀ n, n ∈ (DataW.agg [D0 i, D1 i]).weights Tryd.prog 32 → n ≤ 140737488351232 := fun n hn =>
        hw n (List.mem_cons_of_mem _ (List.mem_append_left _ (mem_wAll (List.mem_map.2 ⟨i, List.mem_range.2 hi, rfl⟩) hn)))
      have e : (DataW.agg [D0 i, D1 i]).weights Tryd.prog 32 = [(S0 i).data.toList.length, (S1 i).data.toList.length] := by
        rw [(hS0 i hi).2, (hS1 i hi).2, DataW.weights, Tryd.underlying32]
        simp [DataW.weightsEach, DataW.weights]
      rw [e] at hmem
      have g0 := hmem (S0 i).data.toList.length (by simp)
      have g1 := hmem (S1 i).data.toList.length (by simp)
      rw [Array.length_toList] at g0 g1
      exact ⟨g0, g1⟩
    refine ⟨(List.range len).map fun i => ⟨S0 i, S1 i⟩, by simp, ⟨by simp, by unfold maxLen at hm; omega, fun hp => ⟨x, rfl, fun j y hj => ?_⟩⟩, hl, ?_, ?_⟩
    · rw [List.getElem?_map] at hj
      obtain ⟨i, hi, rfl⟩ := Option.map_eq_some_iff.1 hj
      have hjl : j < len := by
        have := (List.getElem?_eq_some_iff.1 hi).1
        simpa using this
      obtain rfl : j = i := by
        rw [List.getElem?_range hjl] at hi
        exact Option.some.inj hi
      refine ⟨[.string (S0 j), .string (S1 j)], rfl, k32_mk W ⟨S0 j, S1 j⟩, fun i u hu => ?_⟩
      have hc := hall j (by omega)
      have hi2 : i < 2 := by
        have := (List.getElem?_eq_some_iff.1 hu).1
        simpa using this
      have c0 := hc.1
      have c1 := hc.2.1
      rw [(hS0 j hjl).1] at c0
      rw [(hS1 j hjl).1] at c1
      obtain rfl | rfl : i = 0 ∨ i = 1 := by omega
      · cases hu; exact c0
      · cases hu; exact c1
    · have := hw _ List.mem_cons_self
      simp only [List.length_map, List.length_range] at this
      rw [hbytes] at this
      omega
    · intro y hy
      obtain ⟨i, hi, rfl⟩ := List.mem_map.1 hy
      exact hstr i (List.mem_range.1 hi)
def named (l : List S32) : Bool := l.all fun x => !(x.f0.toList == ([] : List UInt8))
theorem named_snoc (l : List S32) (k : Nat) (h : k < l.length) : named (l.take (k + 1)) = (named (l.take k) && !((l[k]'h).f0.toList == ([] : List UInt8))) := by
  unfold named
  rw [List.take_succ_eq_append_getElem h, List.all_append]
  simp
abbrev gB : S32 → ByteArray × ByteArray := fun x => (x.f0, x.f1)
theorem mk_gB (l : List S32) : (l.map (prOf ∘ gB)).map HandP.mkS = l := by
  rw [List.map_map]
  conv => rhs; rw [← List.map_id l]
  apply List.map_congr_left
  intro x _
  show HandP.mkS (bl x.f0, bl x.f1) = x
  unfold HandP.mkS
  simp only [bl_mk]
theorem named_iff (l : List S32) : named l = true ↔ ∀ p ∈ l.map (prOf ∘ gB), p.1 ≠ [] := by
  unfold named
  rw [List.all_eq_true]
  constructor
  · intro h p hp
    obtain ⟨x, hx, rfl⟩ := List.mem_map.1 hp
    have := h x hx
    rw [Lib.toList_data] at this
    intro e
    have e' : x.f0.data.toList = [] := e
    rw [e'] at this
    simp at this
  · intro h x hx
    have := h _ (List.mem_map.2 ⟨x, hx, rfl⟩)
    rw [Lib.toList_data]
    cases hd : x.f0.data.toList with
    | nil => exact absurd hd this
    | cons a b => rfl
theorem printB_len (l : List S32) (hl : l.length ≤ 30) (h : ∀ x ∈ l, x.f0.size ≤ 400 ∧ x.f1.size ≤ 400) : (printR (l.map (prOf ∘ gB))).length ≤ 100000 := by
  unfold printR
  refine Nat.le_trans (join_len _ 3000 (fun p hp => ?_)) (by simp; omega)
  obtain ⟨q, hq, rfl⟩ := List.mem_map.1 hp
  obtain ⟨x, hx, rfl⟩ := List.mem_map.1 hq
  have h1 := h x hx
  have e1 : (bl x.f0).length = x.f0.size := by simp [bl]
  have e2 : (bl x.f1).length = x.f1.size := by simp [bl]
  have h2 := escR_len (bl x.f0)
  have h3 := escR_len (bl x.f1)
  show (escR (bl x.f0) ++ [61] ++ escR (bl x.f1)).length ≤ 3000
  simp only [List.length_append, List.length_cons, List.length_nil]
  omega
set_option maxHeartbeats 6400000 in
set_option maxRecDepth 100000 in
theorem back (s : ByteArray) (A : Option Addr) (c : Nat) (l : List S32) (w : World) (hs : s.size ≤ 140737488351232) (hC : Kd.C k32 w A l.length l) (hc : l.length ≤ c) (hl : l.length * 32 ≤ 140737488351232)
    (hsz : ∀ x ∈ l, x.f0.size ≤ 140737488351232 ∧ x.f1.size ≤ 140737488351232) :
    Calls Tryd.prog 8 #[.string s, .slice A l.length c] w fun e w' => e = .returned (.bool true) ∧ Below w.heap.size w w' := by
  by_cases hbig : (200 : Int) < (s.size : Int)
  · have d0 : decide ((200 : Int) < (s.size : Int)) = true := decide_eq_true hbig
    clear hbig
    go_enter Tryd.func8, Tryd.ntmps8
    go_wp2_with (go_at_call 10; ((with_reducible refine (known _).mono ?_); rintro e w1 ⟨rfl, hb1⟩; have HB1 := Aside0.mk hb1; clear hb1))
    go_ret
    exact ⟨rfl, HB1.out⟩
  have d0 : decide ((200 : Int) < (s.size : Int)) = false := decide_eq_false hbig
  have hs' : s.size ≤ 200 := by omega
  obtain ⟨hv, hh⟩ := Pure.heavy_tot l (by omega) (l.length + 1) (by omega)
  have cH : Calls Tryd.prog 19 #[.slice A l.length c] w fun e w' => e = .returned (.bool hv) ∧ Below w.heap.size w w' := (wicketmanlaw07_heavy.calls _ A c l hv w hC hc hh).mono fun e w' h => ⟨h.1, h.2.below⟩
  clear hbig
  cases hv with
  | true =>
    go_enter Tryd.func8, Tryd.ntmps8
    go_wp2_with (first
      | (go_at_call 10; ((with_reducible refine (known _).mono ?_); rintro e w2 ⟨rfl, hb2⟩; have HB2 := Aside0.mk (HB1.out.trans (hb2.mono HB1.out.size)); clear hb2))
      | (go_at_call 19; ((with_reducible refine cH.mono ?_); rintro e w1 ⟨rfl, hb1⟩; have HB1 := Aside0.mk hb1; clear hb1)))
    go_ret
    exact ⟨rfl, HB2.out⟩
  | false =>
    by_cases h30 : (30 : Int) < (l.length : Int)
    · have d1 : decide ((30 : Int) < (l.length : Int)) = true := decide_eq_true h30
      clear h30
      go_enter Tryd.func8, Tryd.ntmps8
      go_wp2_with (first
        | (go_at_call 10; ((with_reducible refine (known _).mono ?_); rintro e w2 ⟨rfl, hb2⟩; have HB2 := Aside0.mk (HB1.out.trans (hb2.mono HB1.out.size)); clear hb2))
        | (go_at_call 19; ((with_reducible refine cH.mono ?_); rintro e w1 ⟨rfl, hb1⟩; have HB1 := Aside0.mk hb1; clear hb1)))
      go_ret
      exact ⟨rfl, HB2.out⟩
    · have d1 : decide ((30 : Int) < (l.length : Int)) = false := decide_eq_false h30
      have hl30 : l.length ≤ 30 := by omega
      clear h30
      have hW := Pure.sumW_le l 140737488351232 hsz
      have hW2 : Pure.sumW l < 4611686018427387904 := by
        have : l.length * (1 + 140737488351232 + 140737488351232) ≤ 30 * (1 + 140737488351232 + 140737488351232) := Nat.mul_le_mul_right _ hl30
        show Pure.sumW l < _
        omega
      have hW3 : Pure.sumW l ≤ 400 := by
        rw [Pure.heavy_f l (by omega) hW2 (l.length + 1) (by omega)] at hh
        have := of_decide_eq_false (Option.some.inj hh)
        omega
      have hsm : ∀ x ∈ l, x.f0.size ≤ 400 ∧ x.f1.size ≤ 400 := fun x hx => by
        have := Pure.sumW_mem l x hx
        omega
      clear hW hW2 hW3 hh hsz hl
      obtain ⟨E, hE⟩ : ∃ E, escR (bl s) = E := ⟨_, rfl⟩
      have hEl : E.length ≤ 600 := by
        have := escR_len (bl s)
        have e1 : (bl s).length = s.size := by simp [bl]
        rw [hE] at this
        omega
      have cE : ∀ X, Calls Tryd.prog 23 #[.string s] X fun e w' => e = .returned (.string ⟨E.toArray⟩) ∧ Below X.heap.size X w' := fun X => by
        have := escape (bl s) X (by have e1 : (bl s).length = s.size := by simp [bl]
                                    omega)
        rwa [bl_mk, hE] at this
      have cU : ∀ X, Calls Tryd.prog 18 #[.string ⟨E.toArray⟩] X fun e w' => e = .returned (.tuple #[.string s, .bool true]) ∧ Below X.heap.size X w' := fun X => by
        have := unescape E X (by omega)
        rw [← hE, unescR_escR, bl_mk] at this
        rw [← hE]
        exact this
      have hok := Aside0.mk (fun b hb => escR_ok (bl s) b hb)
      rw [hE] at hok
      clear hE
      obtain ⟨L, hL⟩ : ∃ L, printR (l.map (prOf ∘ gB)) = L := ⟨_, rfl⟩
      have hLl : L.length ≤ 100000 := hL ▸ printB_len l hl30 hsm
      have hsm3 : ∀ x ∈ l, 3 * (bl (gB x).1).length < 1000000 ∧ 3 * (bl (gB x).2).length < 1000000 := fun x hx => by
        have h1 := hsm x hx
        have e1 : (bl x.f0).length = x.f0.size := by simp [bl]
        have e2 : (bl x.f1).length = x.f1.size := by simp [bl]
        exact ⟨by show 3 * (bl x.f0).length < _; omega, by show 3 * (bl x.f1).length < _; omega⟩
      have cL : ∀ X, Below w.heap.size w X → Calls Tryd.prog 20 #[.slice A l.length c] X fun e w' => ∃ b c', e = .returned (.slice (some ⟨b, 0, none⟩) L.length c') ∧ Bys w'.heap.size w' (some ⟨b, 0, none⟩) L ∧ Below X.heap.size X w' :=
        fun X hX => print_str (g := gB) A c l X (Kd.C_below hC hX) (by omega) hsm3 L hL
      obtain ⟨N, hN⟩ : ∃ N, named l = N := ⟨_, rfl⟩
      have hpar : parseR L = if N = true then (l.map (prOf ∘ gB), 0) else ([], 10) := by
        rw [← hL]
        cases N with
        | true => rw [if_pos rfl]; exact parse_print _ (by simp; omega) ((named_iff l).1 hN)
        | false => rw [if_neg (by simp)]; exact parse_print_bad _ (by simp; omega) (fun h => by rw [(named_iff l).2 h] at hN; cases hN)
      have cX : ∀ (b c : Nat) (X : World), Bys X.heap.size X (some ⟨b, 0, none⟩) L → Calls Tryd.prog 17 #[.slice (some ⟨b, 0, none⟩) L.length c] X fun e w' => ∃ A' n' c', e = .returned (.tuple #[.slice A' n' c', .int .u16 (if N = true then 0 else 10)]) ∧ (N = true → n' = l.length ∧ Kd.C k32 w' A' l.length l ∧ l.length ≤ c') ∧ Below X.heap.size X w' := fun b c X hB => by
        refine (parse (some ⟨b, 0, none⟩) c L X (fun Y hY => (hB.below hY).conv c) (by omega)).mono ?_
        rw [hpar]
        rintro e w' ⟨v, rfl, ho, hb⟩
        have hR := parse_rows (fun x : S32 => (x.f0, x.f1)) HandP.mkS (fun _ => rfl) ho
        obtain ⟨A', c', rfl, hc1, hc2⟩ := Kd.R_reads hR
        cases N with
        | true =>
          simp only [if_true] at hR hc1 hc2 ⊢
          rw [mk_gB] at hR hc1 hc2 ⊢
          exact ⟨A', _, c', rfl, fun _ => ⟨rfl, (own_C (g := gB) (own_of (g := gB) hR)).1, (own_C (g := gB) (own_of (g := gB) hR)).2⟩, hb⟩
        | false => exact ⟨A', _, c', rfl, (fun h => by cases h), hb⟩
      have cS : ∀ (A' : Option Addr) (c' : Nat) (X : World), Below w.heap.size w X → Kd.C k32 X A' l.length l → l.length ≤ c' → Calls Tryd.prog 24 #[.slice A l.length c, .slice A' l.length c'] X fun e w' => e = .returned (.bool true) ∧ Below X.heap.size X w' :=
        fun A' c' X hX hC' hc' => (wicketmanref07_Same.calls (l.length + 1) A c l A' c' l true X (Kd.C_below hC hX) hc hC' hc' (Pure.same_f l (by omega) _ (by omega))).mono fun e w' h => ⟨h.1, h.2.below⟩
      clear hpar hL hsm3
      have heq : (s.toList == s.toList) = true := by simp
      go_enter Tryd.func8, Tryd.ntmps8
      go_wp2_with (first
        | (go_at_call 18; ((with_reducible refine (cU _).mono ?_); rintro e w3 ⟨rfl, hb3⟩; have HB3 := Aside0.mk (HB2.out.trans (hb3.mono HB2.out.size)); clear hb3))
        | (go_at_call 23; ((with_reducible refine (cE _).mono ?_); rintro e w2 ⟨rfl, hb2⟩; have HB2 := Aside0.mk (HB1.out.trans (hb2.mono HB1.out.size)); clear hb2))
        | (go_at_call 19; ((with_reducible refine cH.mono ?_); rintro e w1 ⟨rfl, hb1⟩; have HB1 := Aside0.mk hb1; clear hb1)))
      go_loopw [8] (fun i wr => ∃ k : Nat, k ≤ E.length ∧ i = .int .i64 k ∧ Aside0 (Below w.heap.size w wr)) (fun i _ => E.length - (intOf i).toNat)
      case atStart => exact ⟨0, by omega, rfl, HB3⟩
      case round =>
        obtain ⟨k, hk, rfl, HB⟩ := hrel
        by_cases hlt : k < E.length
        · have hb := hok.out (E[k]'hlt) (List.getElem_mem _)
          obtain ⟨n, hn⟩ : ∃ n, (E[k]'hlt).toNat = n := ⟨_, rfl⟩
          have hix : ∀ h, ((((⟨E.toArray⟩ : ByteArray)[k]'h).toNat : Nat) : Int) = (n : Int) := fun h => by rw [← hn]; rfl
          have hk1 : wrap64 ((k : Int) + 1) = (k : Int) + 1 := by unfold wrap64; omega
          have n38 : n ≠ 38 := fun e => hb.1 (UInt8.toNat_inj.1 (by rw [hn, e]; rfl))
          have n61 : n ≠ 61 := fun e => hb.2.1 (UInt8.toNat_inj.1 (by rw [hn, e]; rfl))
          have t1 : decide ((n : Int) ≤ 32) = false := decide_eq_false (by omega)
          have t2 : decide ((127 : Int) ≤ (n : Int)) = false := decide_eq_false (by omega)
          have t1' : decide (n ≤ 32) = false := decide_eq_false (by omega)
          have t2' : decide (127 ≤ n) = false := decide_eq_false (by omega)
          have t3 : ((n : Int) == 38) = false := beq_eq_false_iff_ne.2 (by omega)
          have t4 : ((n : Int) == 61) = false := beq_eq_false_iff_ne.2 (by omega)
          clear hb hn n38 n61
          go_wp2
          go_roundw
          case measure => simp [intOf]; omega
          case rel => exact ⟨k + 1, by omega, by go_num, HB⟩
        · have hke : k = E.length := by omega
          subst hke
          go_wp2
          go_loopw [9, 10] (fun b i wr => ∃ k : Nat, k ≤ l.length ∧ i = .int .i64 k ∧ b = .bool (named (l.take k)) ∧ Aside0 (Below w.heap.size w wr)) (fun _ i _ => l.length - (intOf i).toNat)
          case atStart => exact ⟨0, by omega, rfl, rfl, HB⟩
          case round =>
            obtain ⟨k, hk, rfl, rfl, HB'⟩ := hrel
            by_cases hlt2 : k < l.length
            · have hne : l ≠ [] := by intro h; rw [h] at hlt2; simp at hlt2
              have hsn := named_snoc l k hlt2
              obtain ⟨q, o, hA, hq, hcells⟩ := pk_at (g := gB) hC hne
              subst hA
              have h1 := (hcells k hlt2).1
              replace h1 := (HB'.out.cell (p := ⟨q, o + k * 2, none⟩) hq).trans h1
              obtain ⟨z, hz⟩ : ∃ z, (l[k]'hlt2).f0 = z := ⟨_, rfl⟩
              rw [hz] at hsn
              rw [show (gB (l[k]'hlt2)).1 = z from hz] at h1
              have hk1 : wrap64 ((k : Int) + 1) = (k : Int) + 1 := by unfold wrap64; omega
              obtain ⟨y, hy⟩ : ∃ y, (z.toList == ([] : List UInt8)) = y := ⟨_, rfl⟩
              rw [hy] at hsn
              obtain ⟨u, hu⟩ : ∃ u, named (l.take k) = u := ⟨_, rfl⟩
              rw [hu] at hsn ⊢
              have hsn' := Aside0.mk hsn
              clear hcells hz hu hsn
              cases u
              all_goals go_wp2
              all_goals go_roundw
              all_goals first
                | (simp [intOf]; omega)
                | exact ⟨k + 1, by omega, by go_num, by rw [hsn'.out]; rfl, HB'⟩
            · have hke2 : k = l.length := by omega
              subst hke2
              rw [List.take_length, hN]
              cases N with
              | true =>
                go_wp2_with (first
                  | (go_at_call 24; ((with_reducible refine (cS _ _ _ HB12.out (Kd.C_below hCx.out HBk.out) hcx).mono ?_); rintro e w13 ⟨rfl, hb13⟩; have HB13 := Aside0.mk (HB12.out.trans (hb13.mono HB12.out.size)); clear hb13))
                  | (go_at_call 10; ((with_reducible refine (known _).mono ?_); rintro e w12 ⟨rfl, hb12⟩; have HBk := Aside0.mk hb12; have HB12 := Aside0.mk (HB11.out.trans (hb12.mono HB11.out.size)); clear hb12))
                  | (go_at_call 17; ((with_reducible refine (cX _ _ _ hBy.out).mono ?_); rintro e w11 ⟨A', n', c', rfl, hx, hb11⟩; obtain ⟨rfl, hcx', hcx⟩ := hx (by simp); have hCx := Aside0.mk hcx'; have HB11 := Aside0.mk (HB10.out.trans (hb11.mono HB10.out.size)); clear hb11 hcx'))
                  | (go_at_call 20; ((with_reducible refine (cL _ HB'.out).mono ?_); rintro e w10 ⟨b10, c10, rfl, hby, hb10⟩; have hBy := Aside0.mk hby; have HB10 := Aside0.mk (HB'.out.trans (hb10.mono HB'.out.size)); clear hb10 hby)))
                go_ret
                exact ⟨by first | rfl | simp, by first | exact HB13.out | exact HB12.out⟩
              | false =>
                go_wp2_with (first
                  | (go_at_call 10; ((with_reducible refine (known _).mono ?_); rintro e w12 ⟨rfl, hb12⟩; have HBk := Aside0.mk hb12; have HB12 := Aside0.mk (HB11.out.trans (hb12.mono HB11.out.size)); clear hb12))
                  | (go_at_call 17; ((with_reducible refine (cX _ _ _ hBy.out).mono ?_); rintro e w11 ⟨A', n', c', rfl, hx, hb11⟩; have HB11 := Aside0.mk (HB10.out.trans (hb11.mono HB10.out.size)); clear hb11 hx))
                  | (go_at_call 20; ((with_reducible refine (cL _ HB'.out).mono ?_); rintro e w10 ⟨b10, c10, rfl, hby, hb10⟩; have hBy := Aside0.mk hby; have HB10 := Aside0.mk (HB'.out.trans (hb10.mono HB'.out.size)); clear hb10 hby)))
                go_ret
                exact ⟨by first | rfl | simp, HB12.out⟩
theorem fillBack_row (a0 : ByteArray) (a1 : Option Addr) (len1 cap1 : Nat) (l : List S32) (w : World) (w0 : a0.size ≤ 140737488351232) (e1 : l.length = len1) (hC : Kd.C k32 w a1 len1 l) (hc : len1 ≤ cap1) (y1 : len1 * 32 ≤ 140737488351232)
    (w1 : ∀ x ∈ l, x.f0.size ≤ 140737488351232 ∧ x.f1.size ≤ 140737488351232) :
    Calls Tryd.prog 8 #[.string a0, .slice a1 len1 cap1] w fun e w' => e = .returned (.bool true) ∧ Below w.heap.size w w' := by
  subst e1
  exact back a0 a1 cap1 l w w0 hC hc y1 w1
end Go.Proofs.YtjbghpkdehikfaaDoor.Hand
