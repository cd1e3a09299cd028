/- fill: FillMany's walk. -/
import Derived.Test.YtjbghpkdehikfaaDoorProg
import Derived.Below
import Derived.Deep.Draws
import Derived.Deep.AppendLies
import Derived.Maps.AppendAt
import Derived.OwnWalk
import Derived.Laws.BytesArg
import Derived.Laws.MakeOwn
import Derived.Laws.OwnMore
import Derived.Deep.OwnRows
import Derived.Tactics
import Derived.Lib.ConvBytes
import Derived.Laws.Slices
import Derived.WalkKit
import Derived.KernelRfl
import Derived.RowKit3
import Derived.Deep.LoopGhost
import Derived.Deep.QuietTactic
import Derived.BigQuiet
import Derived.WideLaws
import Derived.Deep.DeepCutAuto
import Derived.Deep.CutBlock
import Derived.Deep.RegionHeld3
import Derived.Laws.Rows
import Derived.Lib.AppendStr
import Derived.ArgAppend
import Derived.Laws.IdiomCopy
import Derived.OrdersHeld
import Derived.Laws.BitsLemmas
import Derived.RowKit
import Derived.Test.YtjbghpkdehikfaaDoorWWords
import Derived.Test.YtjbghpkdehikfaaDoorWLast
import Derived.Test.YtjbghpkdehikfaaDoorWTab
import Derived.Test.YtjbghpkdehikfaaDoorWFour
import Derived.Test.YtjbghpkdehikfaaDoorWQPut
import Derived.Test.YtjbghpkdehikfaaDoorWApart
import Derived.Test.YtjbghpkdehikfaaDoorWArr
import Derived.Test.YtjbghpkdehikfaaDoorWZeros
import Derived.Test.YtjbghpkdehikfaaDoorWFoot
import Derived.Test.YtjbghpkdehikfaaDoorWKept
import Derived.Test.YtjbghpkdehikfaaDoorWShare
import Derived.Test.YtjbghpkdehikfaaDoorWN
import Derived.Test.YtjbghpkdehikfaaDoorWFootNe
import Derived.Test.YtjbghpkdehikfaaDoorWAt
import Derived.Test.YtjbghpkdehikfaaDoorWEqStruct
import Derived.Test.YtjbghpkdehikfaaDoorWRepsOne
import Derived.Test.YtjbghpkdehikfaaDoorWInv
import Derived.Test.YtjbghpkdehikfaaDoorWInvWords
import Derived.Test.YtjbghpkdehikfaaDoorWGuard
import Derived.Test.YtjbghpkdehikfaaDoorWNEv
import Derived.Test.YtjbghpkdehikfaaDoorWMore
import Derived.Outline
import Derived.BigRegion
import Derived.Test.YtjbghpkdehikfaaDoorHManyA
namespace Go.Proofs.YtjbghpkdehikfaaDoor.Hand
open Go.RowKit Go.Shelf Go.Proofs.YtjbghpkdehikfaaDoorW.PrintWords Go.Proofs.YtjbghpkdehikfaaDoorW.PrintLast Go.Proofs.YtjbghpkdehikfaaDoorW.PrintMore
set_option linter.unusedVariables false
set_option linter.unusedSimpArgs false
theorem aS_step (i : Nat) (h : 0 < i) : (⟨(aS i).toArray⟩ : ByteArray) ++ ⟨#[38]⟩ ++ ⟨#[97, 61, 49]⟩ = ⟨(aS (i + 1)).toArray⟩ := by
  obtain ⟨k, rfl⟩ : ∃ k, i = k + 1 := ⟨i - 1, by omega⟩
  exact bl_is (by simp [aS])

set_option maxHeartbeats 3200000 in
set_option maxRecDepth 100000 in
theorem many (n : Nat) (hn : n < 256) (em : Bool) (w : World) : Calls Tryd.prog 5 #[.int .u8 n, .bool em] w fun e w' => e = .returned (.bool true) ∧ Below w.heap.size w w' := by
  obtain ⟨k, hk⟩ : ∃ k, 1 + n % 40 = k := ⟨_, rfl⟩
  have hk1 : 1 ≤ k := by omega
  have hk2 : k < 41 := by omega
  obtain ⟨hl, hp⟩ := aS_parse k hk2
  obtain ⟨p1, p2, p3⟩ := hp hk1
  clear hp
  obtain ⟨W, c, hrun, hcells, hsz, hbel⟩ := conv (aS k) w
  have cP0 := parse_at w.heap.size c (aS k) W (by omega) hcells (by omega)
  obtain ⟨L, hL⟩ : ∃ L, aS k = L := ⟨_, rfl⟩
  rw [hL] at cP0 hrun p1 p2 p3 hl
  obtain ⟨R, hR⟩ : ∃ R, parseR L = R := ⟨_, rfl⟩
  rw [hR] at cP0 p1 p2
  obtain ⟨ps, r⟩ := R
  have cP : Calls Tryd.prog 17 #[.slice (some ⟨w.heap.size, 0, none⟩) L.length c] W fun e w' => ∃ a c', e = .returned (.tuple #[.slice a (if k ≤ 30 then k else 0) c', .int .u16 (if k ≤ 30 then 0 else 3)]) ∧ Below w.heap.size w w' := by
    refine cP0.mono ?_
    rintro e w' ⟨v, rfl, ho, hb⟩
    obtain ⟨a, c', rfl⟩ := ho.sl
    have p1' : ps.length = if k ≤ 30 then k else 0 := p1
    have p2' : r = if k ≤ 30 then 0 else 3 := p2
    exact ⟨a, c', by rw [p1', p2'], hbel.trans (hb.mono (by omega))⟩
  clear cP0 hcells hR p1 p2
  have e1 : wrap64 (1 + wrap64 ((n : Int) % 40)) = (k : Int) := by unfold wrap64; omega
  have e1' : (1 : Int) + (n : Int) % 40 = (k : Int) := by omega
  have HL := Aside0.mk hL
  have H3 := Aside0.mk p3
  have hl' : L.length ≤ 160 := hl
  clear hL p3 hk hl
  go_enter Tryd.func5, Tryd.ntmps5
  go_wp2
  go_loop [6, 7] (fun v i => ∃ j : Nat, j ≤ k ∧ i = .int .i64 j ∧ v = .string ⟨(aS j).toArray⟩) (fun _ i => k - (intOf i).toNat)
  case atStart => exact ⟨0, by omega, rfl, rfl⟩
  case round =>
    obtain ⟨j, hj, rfl, rfl⟩ := hrel
    by_cases hlt : j < k
    · have hl1 := (aS_parse j (by omega)).1
      have e3 : wrap64 ((j : Int) + 1) = (j : Int) + 1 := by unfold wrap64; omega
      by_cases h0 : j = 0
      · subst h0
        go_wp2
        go_roundw
        case rel => exact ⟨1, by omega, rfl, rfl⟩
        case measure => simp [intOf]; omega
      · have hs := aS_step j (by omega)
        obtain ⟨X, hX⟩ : ∃ X, aS j = X := ⟨_, rfl⟩
        rw [hX] at hs hl1
        obtain ⟨Y, hY⟩ : ∃ Y, aS (j + 1) = Y := ⟨_, rfl⟩
        rw [hY] at hs
        rw [hX]
        have HY := Aside0.mk hY
        have e4 : decide (0 < (j : Int)) = true := decide_eq_true (by omega)
        have e5 : 0 < j := by omega
        clear hX hY h0
        go_wp2
        go_roundw
        case rel => exact ⟨j + 1, by omega, by go_num, by rw [HY.out]⟩
        case measure => simp [intOf]; omega
    · have hjk : j = k := by omega
      rw [hjk, HL.out]
      clear hj hlt hjk e1 e1' HL
      have n2 : decide ((k : Int) < (k : Int)) = false := decide_eq_false (by omega)
      have cN : ∀ X : World, Calls Tryd.prog 17 #[.slice none 0 0] X fun e w' => ∃ a c', e = .returned (.tuple #[.slice a 0 c', .int .u16 0]) ∧ Below X.heap.size X w' := fun X => by
        refine (parse_nil none 0 X).mono ?_
        rintro e w' ⟨v, rfl, ho, hb⟩
        obtain ⟨a, c', rfl⟩ := ho.sl
        exact ⟨a, c', rfl, hb⟩
      cases em with
      | false =>
        by_cases h30 : k ≤ 30
        · rw [if_pos h30, if_pos h30] at cP
          have g1 : decide ((k : Int) ≤ 30) = true := decide_eq_true (by omega)
          have g2 : (k : Int) ≤ 30 := by omega
          clear h30 H3
          go_wp2_with (first
            | (go_at_call 17; first
                | ((with_reducible refine cP.mono ?_); rintro e w1 ⟨a, c', rfl, hb⟩; have HB1 := Aside0.mk hb; clear hb)
                | ((with_reducible refine (cN _).mono ?_); rintro e w2 ⟨a2, c2, rfl, hb⟩; have HB2 := Aside0.mk (HB1.out.trans (hb.mono HB1.out.size)); clear hb))
            | (go_at_call 10; ((with_reducible refine (known _).mono ?_); rintro e w5 ⟨rfl, hb⟩; have HB5 := Aside0.mk (HB2.out.trans (hb.mono HB2.out.size)); clear hb)))
          go_ret
          exact ⟨rfl, HB5.out⟩
        · rw [if_neg h30, if_neg h30] at cP
          have g1 : decide ((k : Int) ≤ 30) = false := decide_eq_false (by omega)
          have g2 : 30 < (k : Int) := by omega
          clear h30 H3
          go_wp2_with (first
            | (go_at_call 17; first
                | ((with_reducible refine cP.mono ?_); rintro e w1 ⟨a, c', rfl, hb⟩; have HB1 := Aside0.mk hb; clear hb)
                | ((with_reducible refine (cN _).mono ?_); rintro e w2 ⟨a2, c2, rfl, hb⟩; have HB2 := Aside0.mk (HB1.out.trans (hb.mono HB1.out.size)); clear hb))
            | (go_at_call 10; ((with_reducible refine (known _).mono ?_); rintro e w5 ⟨rfl, hb⟩; have HB5 := Aside0.mk (HB2.out.trans (hb.mono HB2.out.size)); clear hb)))
          go_ret
          exact ⟨rfl, HB5.out⟩
      | true =>
        obtain ⟨M, hM⟩ : ∃ M, [61, 49, 38] ++ L = M := ⟨_, rfl⟩
        have hS : (⟨#[61, 49, 38]⟩ : ByteArray) ++ ⟨L.toArray⟩ = ⟨M.toArray⟩ := by rw [← hM]; exact bl_is (by simp)
        have hML : M.length ≤ 163 := by rw [← hM]; simp; omega
        have HM : (parseR M).2 = if k < 30 then 10 else 3 := by rw [← hM]; exact H3.out
        have cM : ∀ (X Y : World) (d : Nat), (convert 9 22 (.string ⟨M.toArray⟩)).run Tryd.prog X = .ok (.slice (some ⟨X.heap.size, 0, none⟩) M.length d) Y → True := fun _ _ _ _ => trivial
        clear hM H3 cM
        obtain ⟨m, hm⟩ : ∃ m, (if k ≤ 30 then k else 0) = m := ⟨_, rfl⟩
        obtain ⟨r, hr⟩ : ∃ r : Int, (if k ≤ 30 then 0 else 3) = r := ⟨_, rfl⟩
        rw [hm, hr] at cP
        clear hm hr
        by_cases h30 : k < 30
        · rw [if_pos h30] at HM
          have g1 : decide ((k : Int) < 30) = true := decide_eq_true (by omega)
          have g2 : (k : Int) < 30 := by omega
          have HM' := Aside0.mk HM
          clear h30 HM
          go_wp2_with (first
            | (go_at_call 17; first
                | ((with_reducible refine cP.mono ?_); rintro e w1 ⟨a, c', rfl, hb⟩; have HB1 := Aside0.mk hb; clear hb; obtain ⟨W2, d2, hrun2, hc2, hs2, hb2⟩ := conv M w1; have HB2 := Aside0.mk (HB1.out.trans (hb2.mono HB1.out.size)); have hp2 := Aside0.mk (parse_at w1.heap.size d2 M W2 (by omega) hc2 (by omega)); clear hc2)
                | ((with_reducible refine hp2.out.mono ?_); rw [HM'.out]; rintro e w3 ⟨v, rfl, _, hb⟩; have HB3 := Aside0.mk (HB2.out.trans (hb.mono HB2.out.size)); clear hb))
            | (go_at_call 10; ((with_reducible refine (known _).mono ?_); rintro e w5 ⟨rfl, hb⟩; have HB5 := Aside0.mk (HB3.out.trans (hb.mono HB3.out.size)); clear hb)))
          go_ret
          exact ⟨rfl, HB5.out⟩
        · rw [if_neg h30] at HM
          have g1 : decide ((30 : Int) ≤ (k : Int)) = true := decide_eq_true (by omega)
          have g2 : (30 : Int) ≤ (k : Int) := by omega
          have HM' := Aside0.mk HM
          clear h30 HM
          go_wp2_with (first
            | (go_at_call 17; first
                | ((with_reducible refine cP.mono ?_); rintro e w1 ⟨a, c', rfl, hb⟩; have HB1 := Aside0.mk hb; clear hb; obtain ⟨W2, d2, hrun2, hc2, hs2, hb2⟩ := conv M w1; have HB2 := Aside0.mk (HB1.out.trans (hb2.mono HB1.out.size)); have hp2 := Aside0.mk (parse_at w1.heap.size d2 M W2 (by omega) hc2 (by omega)); clear hc2)
                | ((with_reducible refine hp2.out.mono ?_); rw [HM'.out]; rintro e w3 ⟨v, rfl, _, hb⟩; have HB3 := Aside0.mk (HB2.out.trans (hb.mono HB2.out.size)); clear hb))
            | (go_at_call 10; ((with_reducible refine (known _).mono ?_); rintro e w5 ⟨rfl, hb⟩; have HB5 := Aside0.mk (HB3.out.trans (hb.mono HB3.out.size)); clear hb)))
          go_ret
          exact ⟨rfl, HB5.out⟩
theorem fillMany_row (a0 : Int) (a1 : Bool) (w : World) (h : (Lit.int .u8 a0).wf = true) : Calls Tryd.prog 5 #[.int .u8 a0, .bool a1] w fun e w' => e = .returned (.bool true) ∧ Below w.heap.size w w' := by
  have h' : 0 ≤ a0 ∧ a0 < 256 := by simp [Lit.wf, IntKind.min, IntKind.max, IntKind.bits, IntKind.signed] at h; omega
  obtain ⟨n, rfl⟩ := Int.eq_ofNat_of_zero_le h'.1
  exact many n (by omega) a1 w
end Go.Proofs.YtjbghpkdehikfaaDoor.Hand
