/- fill: FillParses' walk. -/
import Derived.Test.YtjbghpkdehikfaaDoorProg
import Derived.Below
import Derived.Deep.Draws
import Derived.Deep.AppendLies
import Derived.Maps.AppendAt
import Derived.OwnWalk
import Derived.Laws.BytesArg
import Derived.Laws.MakeOwn
import Derived.Laws.OwnMore
import Derived.Deep.OwnRows
import Derived.Tactics
import Derived.Lib.ConvBytes
import Derived.Laws.Slices
import Derived.WalkKit
import Derived.KernelRfl
import Derived.RowKit3
import Derived.Deep.LoopGhost
import Derived.Deep.QuietTactic
import Derived.BigQuiet
import Derived.WideLaws
import Derived.Deep.DeepCutAuto
import Derived.Deep.CutBlock
import Derived.Deep.RegionHeld3
import Derived.Laws.Rows
import Derived.Lib.AppendStr
import Derived.ArgAppend
import Derived.Laws.IdiomCopy
import Derived.OrdersHeld
import Derived.Laws.BitsLemmas
import Derived.RowKit
import Derived.Test.YtjbghpkdehikfaaDoorWWords
import Derived.Test.YtjbghpkdehikfaaDoorWLast
import Derived.Test.YtjbghpkdehikfaaDoorWTab
import Derived.Test.YtjbghpkdehikfaaDoorWFour
import Derived.Test.YtjbghpkdehikfaaDoorWQPut
import Derived.Test.YtjbghpkdehikfaaDoorWApart
import Derived.Test.YtjbghpkdehikfaaDoorWArr
import Derived.Test.YtjbghpkdehikfaaDoorWZeros
import Derived.Test.YtjbghpkdehikfaaDoorWFoot
import Derived.Test.YtjbghpkdehikfaaDoorWKept
import Derived.Test.YtjbghpkdehikfaaDoorWShare
import Derived.Test.YtjbghpkdehikfaaDoorWN
import Derived.Test.YtjbghpkdehikfaaDoorWFootNe
import Derived.Test.YtjbghpkdehikfaaDoorWAt
import Derived.Test.YtjbghpkdehikfaaDoorWEqStruct
import Derived.Test.YtjbghpkdehikfaaDoorWRepsOne
import Derived.Test.YtjbghpkdehikfaaDoorWInv
import Derived.Test.YtjbghpkdehikfaaDoorWInvWords
import Derived.Test.YtjbghpkdehikfaaDoorWGuard
import Derived.Test.YtjbghpkdehikfaaDoorWNEv
import Derived.Test.YtjbghpkdehikfaaDoorWMore
import Derived.Outline
import Derived.BigRegion
import Derived.Test.YtjbghpkdehikfaaDoorPureFillParses
import Derived.Test.YtjbghpkdehikfaaDoorHRaw
import Derived.Test.YtjbghpkdehikfaaDoorHKnown
namespace Go.Proofs.YtjbghpkdehikfaaDoor.Hand
open Go.RowKit Go.Shelf Go.Proofs.YtjbghpkdehikfaaDoorW.PrintWords Go.Proofs.YtjbghpkdehikfaaDoorW.PrintLast Go.Proofs.YtjbghpkdehikfaaDoorW.PrintMore
open Go.Proofs.YtjbghpkdehikfaaDoor.PFillParses
set_option linter.unusedVariables false
set_option linter.unusedSimpArgs false
theorem raw_l (l : List Int) (hb : Pure.BytesI l) (T : List ByteArray) (hT : T.length = 17) (hS : ∀ t ∈ T, t.size ≤ 7) : ∀ (d i k : Nat) (s : ByteArray), i + d = 50 → d < k → s.size ≤ 7 * i →
    ∃ r, raw.l0 k l T s i = some r ∧ r.size ≤ 350 := by
  intro d
  induction d with
  | zero =>
    intro i k s hi hk hs
    obtain ⟨k, rfl⟩ : ∃ k', k = k' + 1 := ⟨k - 1, by omega⟩
    unfold raw.l0
    have h60 : ¬ (i : Int) < 50 := by omega
    by_cases h : (i : Int) < (l.length : Int)
    · rw [if_pos h, if_neg h60]; exact ⟨_, rfl, by omega⟩
    · rw [if_neg h]; exact ⟨_, rfl, by omega⟩
  | succ d ih =>
    intro i k s hi hk hs
    obtain ⟨k, rfl⟩ : ∃ k', k = k' + 1 := ⟨k - 1, by omega⟩
    unfold raw.l0
    by_cases h : (i : Int) < (l.length : Int)
    · have hx := Pure.rd_b hb i (by omega)
      have h1 := Pure.w64 (rd l i) (by omega) (by omega)
      have h2 : 0 ≤ Int.tmod (rd l i) 17 := by rw [Int.tmod_eq_emod_of_nonneg hx.1]; omega
      have h3 : Int.tmod (rd l i) 17 < 17 := by rw [Int.tmod_eq_emod_of_nonneg hx.1]; omega
      have hT' : ((T.length : Nat) : Int) = 17 := by omega
      rw [if_pos h, if_pos (by omega), if_pos (by omega), h1, hT', if_neg (by omega), if_pos h2, if_pos h3]
      have hmem : (rdOf ByteArray.empty T (Int.tmod (rd l i) 17)).size ≤ 7 := by
        unfold rdOf
        rw [List.getD_eq_getElem?_getD, List.getElem?_eq_getElem (by omega)]
        exact hS _ (List.getElem_mem _)
      rw [if_pos (by omega), Pure.w64 ((i : Int) + 1) (by omega) (by omega), show ((i : Int) + 1) = ((i + 1 : Nat) : Int) by omega]
      exact ih (i + 1) k _ (by omega) (by omega) (by rw [ByteArray.size_append]; omega)
    · rw [if_neg h]; exact ⟨_, rfl, by omega⟩
theorem raw_f (l : List Int) (hb : Pure.BytesI l) (k : Nat) (hk : 50 < k) : ∃ r, raw.f k l = some r ∧ r.size ≤ 350 := by
  unfold raw.f
  exact raw_l l hb _ rfl (by decide) 50 0 k _ rfl hk (by decide)
theorem str_ints (s : ByteArray) : strOfNums (ints (bl s)) = s := by
  have h : strOfNums (ints (bl s)) = ⟨(bl s).toArray⟩ := Pure.str_nums (bl s)
  rw [h, bl_mk]
set_option maxHeartbeats 3200000 in
set_option maxRecDepth 100000 in
theorem parses_walk (A0 : Option Addr) (c0 : Nat) (l0 : List Int) (s : ByteArray) (A2 : Option Addr) (c2 : Nat) (l2 : List Int) (w : World) (hC0 : Kd.C (Kd.int .u8) w A0 l0.length l0) (hc0 : l0.length ≤ c0) (hl0 : l0.length ≤ 140737488351232)
    (hs : s.size ≤ 140737488351232) (hC2 : Kd.C (Kd.int .u8) w A2 l2.length l2) (hc2 : l2.length ≤ c2) (hb2 : Pure.BytesI l2) :
    Calls Tryd.prog 3 #[.slice A0 l0.length c0, .string s, .slice A2 l2.length c2] w fun e w' => e = .returned (.bool true) ∧ Below w.heap.size w w' := by
  have hw : wrap64 ((l0.length : Int) + (s.size : Int)) = (l0.length : Int) + (s.size : Int) := Pure.w64 _ (by omega) (by omega)
  by_cases hbig : (500 : Int) < (l0.length : Int) + (s.size : Int)
  · have d0 : decide ((500 : Int) < (l0.length : Int) + (s.size : Int)) = true := decide_eq_true hbig
    clear hbig
    go_enter Tryd.func3, Tryd.ntmps3
    go_wp2_with (go_at_call 10; ((with_reducible refine (known _).mono ?_); rintro e w1 ⟨rfl, hb1⟩; have HB1 := Aside0.mk hb1; clear hb1))
    go_ret
    exact ⟨rfl, HB1.out⟩
  · have d0 : decide ((500 : Int) < (l0.length : Int) + (s.size : Int)) = false := decide_eq_false hbig
    have hl0' : l0.length ≤ 500 := by omega
    have hs' : s.size ≤ 500 := by omega
    clear hbig
    obtain ⟨r, hr, hrs⟩ := raw_f l2 hb2 100 (by omega)
    obtain ⟨t, ht, hts⟩ := Pure.text_f l2 hb2 100 (by omega)
    have cR : ∀ X, Below w.heap.size w X → Calls Tryd.prog 11 #[.slice A2 l2.length c2] X fun e w' => ∃ A c, e = .returned (.slice A (bl r).length c) ∧ Kd.C (Kd.int .u8) w' A (bl r).length (ints (bl r)) ∧ (bl r).length ≤ c ∧ Below X.heap.size X w' := fun X hX => raw.calls 100 A2 c2 l2 r X (Kd.C_below hC2 hX) hc2 hr (by omega)
    have cT : ∀ X, Below w.heap.size w X → Calls Tryd.prog 14 #[.slice A2 l2.length c2] X fun e w' => e = .returned (.string t) ∧ Below X.heap.size X w' := fun X hX => wicketmanlaw06_Text.calls 100 A2 c2 l2 t X (Kd.C_below hC2 hX) hc2 ht
    have cP0 : ∀ X, Below w.heap.size w X → Calls Tryd.prog 12 #[.slice A0 l0.length c0] X fun e w' => e = .returned (.bool true) ∧ Below X.heap.size X w' := fun X hX => wicketmanlaw07_parses.calls 5000 A0 c0 l0 true X (Kd.C_below hC0 hX) hc0 (Pure.parses_f l0 (by omega) 5000 (by omega))
    have cP1 : ∀ X A c, Kd.C (Kd.int .u8) X A (bl r).length (ints (bl r)) → (bl r).length ≤ c → Calls Tryd.prog 12 #[.slice A (bl r).length c] X fun e w' => e = .returned (.bool true) ∧ Below X.heap.size X w' := by
      intro X A c hX hc
      have hlen : (bl r).length = r.size := by simp [bl]
      have := wicketmanlaw07_parses.calls 5000 A c (ints (bl r)) true X (by rw [ints_len]; exact hX) (by rw [ints_len]; exact hc) (Pure.parses_f _ (by rw [ints_len]; omega) 5000 (by rw [ints_len]; omega))
      rwa [ints_len] at this
    have cS : ∀ (x : ByteArray) (X : World), x.size ≤ 500 → Calls Tryd.prog 13 #[.string x] X fun e w' => e = .returned (.bool true) ∧ Below X.heap.size X w' := fun x X hx => wicketmanlaw07_texts.calls 5000 x true X (Pure.texts_f x (by omega) 5000 (by omega))
    obtain ⟨n, hn⟩ : ∃ n, (bl r).length = n := ⟨_, rfl⟩
    have hcv : ∀ {X : World} {A : Option Addr}, Kd.C (Kd.int .u8) X A n (ints (bl r)) → ∀ c, (convert 22 9 (.slice A n c)).run Tryd.prog X = .ok (.string r) X := by
      intro X A h c
      have := Kd.C_string (c := c) Tryd.underlying22 Tryd.underlying5 Tryd.underlying9 h
      rwa [str_ints] at this
    rw [hn] at cR cP1
    clear hr ht hn
    go_enter Tryd.func3, Tryd.ntmps3
    go_wp2_with (first
      | (go_at_call 13; ((with_reducible refine (cS t _ (by omega)).mono ?_); rintro e w9 ⟨rfl, hb9⟩; have HB9 := Aside0.mk (HB8.out.trans (hb9.mono HB8.out.size)); clear hb9))
      | (go_at_call 14; ((with_reducible refine (cT _ HB7.out).mono ?_); rintro e w8 ⟨rfl, hb8⟩; have HB8 := Aside0.mk (HB7.out.trans (hb8.mono HB7.out.size)); clear hb8))
      | (go_at_call 13; ((with_reducible refine (cS r _ (by have := HB6; omega)).mono ?_); rintro e w7 ⟨rfl, hb7⟩; have HB7 := Aside0.mk (HB6.out.trans (hb7.mono HB6.out.size)); clear hb7 HB6))
      | (go_at_call 13; ((with_reducible refine (cS s _ (by have := HB5; omega)).mono ?_); rintro e w6 ⟨rfl, hb6⟩; have HB6 := Aside0.mk (HB5.out.trans (hb6.mono HB5.out.size)); have hcv6 := hcv (Kd.C_below hr5.out hb6) c3; clear hb6 HB5))
      | (go_at_call 12; ((with_reducible refine (cP1 _ _ _ hr4.out hc3).mono ?_); rintro e w5 ⟨rfl, hb5⟩; have HB5 := Aside0.mk (HB4.out.trans (hb5.mono HB4.out.size)); have hr5 := Aside0.mk (Kd.C_below hr4.out hb5); clear hb5 HB4 hr4))
      | (go_at_call 12; ((with_reducible refine (cP0 _ HB3.out).mono ?_); rintro e w4 ⟨rfl, hb4⟩; have HB4 := Aside0.mk (HB3.out.trans (hb4.mono HB3.out.size)); have hr4 := Aside0.mk (Kd.C_below hr3.out hb4); clear hb4 HB3 hr3))
      | (go_at_call 11; ((with_reducible refine (cR _ HB1.out).mono ?_); rintro e w3 ⟨A3, c3, rfl, hr3', hc3, hb3⟩; have HB3 := Aside0.mk (HB1.out.trans (hb3.mono HB1.out.size)); have hr3 := Aside0.mk hr3'; clear hb3 hr3' HB1))
      | (go_at_call 10; ((with_reducible refine (known _).mono ?_); rintro e w1 ⟨rfl, hb1⟩; have HB1 := Aside0.mk hb1; clear hb1)))
    all_goals go_ret
    all_goals exact ⟨by first | rfl | simp, HB9.out⟩
theorem fillParses_row (a0 : Option Addr) (len0 cap0 : Nat) (z0 : List Int) (a1 : ByteArray) (a2 : Option Addr) (len2 cap2 : Nat) (z2 : List Int) (w : World)
    (w0 : (a0 = none ∧ len0 = 0 ∧ cap0 = 0 ∧ z0 = []) ∨ ∃ x, a0 = some x ∧ len0 ≤ cap0 ∧ cap0 ≤ maxLen ∧ z0.length = cap0 ∧ (∀ i, i < z0.length → w.cell? (x.add i) = some (.int .u8 (z0.getD i 0))) ∧ ∀ n ∈ z0, (Lit.int .u8 n).wf = true) (y0 : len0 * 1 ≤ 140737488351232) (w1 : a1.size ≤ 140737488351232)
    (w2 : (a2 = none ∧ len2 = 0 ∧ cap2 = 0 ∧ z2 = []) ∨ ∃ x, a2 = some x ∧ len2 ≤ cap2 ∧ cap2 ≤ maxLen ∧ z2.length = cap2 ∧ (∀ i, i < z2.length → w.cell? (x.add i) = some (.int .u8 (z2.getD i 0))) ∧ ∀ n ∈ z2, (Lit.int .u8 n).wf = true) (y2 : len2 * 1 ≤ 140737488351232) :
    Calls Tryd.prog 3 #[.slice a0 len0 cap0, .string a1, .slice a2 len2 cap2] w fun e w' => e = .returned (.bool true) ∧ Below w.heap.size w w' := by
  obtain ⟨l0, rfl, hr0, hm0, hw0, hc0⟩ := ReadsInt.ofRowC w0
  obtain ⟨l2, rfl, hr2, hm2, hw2, hc2⟩ := ReadsInt.ofRowC w2
  exact parses_walk a0 cap0 l0 a1 a2 cap2 l2 w (Kd.C_of_reads (d := (0 : Int)) (h1 := fun _ => rfl) hr0) hc0 (by omega) w1 (Kd.C_of_reads (d := (0 : Int)) (h1 := fun _ => rfl) hr2) hc2 (Pure.bytes_of_wf hw2)
end Go.Proofs.YtjbghpkdehikfaaDoor.Hand
