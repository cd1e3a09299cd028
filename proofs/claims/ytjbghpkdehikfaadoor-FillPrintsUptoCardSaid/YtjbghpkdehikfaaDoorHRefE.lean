/- fill: the document's Escape. -/
import Derived.Test.YtjbghpkdehikfaaDoorProg
import Derived.Below
import Derived.Deep.Draws
import Derived.Deep.AppendLies
import Derived.Maps.AppendAt
import Derived.OwnWalk
import Derived.Laws.BytesArg
import Derived.Laws.MakeOwn
import Derived.Laws.OwnMore
import Derived.Deep.OwnRows
import Derived.Tactics
import Derived.Lib.ConvBytes
import Derived.Laws.Slices
import Derived.WalkKit
import Derived.KernelRfl
import Derived.RowKit3
import Derived.Deep.LoopGhost
import Derived.Deep.QuietTactic
import Derived.BigQuiet
import Derived.WideLaws
import Derived.Deep.DeepCutAuto
import Derived.Deep.CutBlock
import Derived.Deep.RegionHeld3
import Derived.Laws.Rows
import Derived.Lib.AppendStr
import Derived.ArgAppend
import Derived.Laws.IdiomCopy
import Derived.OrdersHeld
import Derived.Laws.BitsLemmas
import Derived.RowKit
import Derived.Test.YtjbghpkdehikfaaDoorWWords
import Derived.Test.YtjbghpkdehikfaaDoorWLast
import Derived.Test.YtjbghpkdehikfaaDoorWTab
import Derived.Test.YtjbghpkdehikfaaDoorWFour
import Derived.Test.YtjbghpkdehikfaaDoorWQPut
import Derived.Test.YtjbghpkdehikfaaDoorWApart
import Derived.Test.YtjbghpkdehikfaaDoorWArr
import Derived.Test.YtjbghpkdehikfaaDoorWZeros
import Derived.Test.YtjbghpkdehikfaaDoorWFoot
import Derived.Test.YtjbghpkdehikfaaDoorWKept
import Derived.Test.YtjbghpkdehikfaaDoorWShare
import Derived.Test.YtjbghpkdehikfaaDoorWN
import Derived.Test.YtjbghpkdehikfaaDoorWFootNe
import Derived.Test.YtjbghpkdehikfaaDoorWAt
import Derived.Test.YtjbghpkdehikfaaDoorWEqStruct
import Derived.Test.YtjbghpkdehikfaaDoorWRepsOne
import Derived.Test.YtjbghpkdehikfaaDoorWInv
import Derived.Test.YtjbghpkdehikfaaDoorWInvWords
import Derived.Test.YtjbghpkdehikfaaDoorWGuard
import Derived.Test.YtjbghpkdehikfaaDoorWNEv
import Derived.Test.YtjbghpkdehikfaaDoorWMore
import Derived.Outline
import Derived.BigRegion
import Derived.BigQuiet
import Derived.Test.YtjbghpkdehikfaaDoorHCases
namespace Go.Proofs.YtjbghpkdehikfaaDoor.Hand
open Go.RowKit Go.Shelf Go.Proofs.YtjbghpkdehikfaaDoorW.PrintWords Go.Proofs.YtjbghpkdehikfaaDoorW.PrintLast Go.Proofs.YtjbghpkdehikfaaDoorW.PrintMore
set_option linter.unusedVariables false
set_option linter.unusedSimpArgs false
theorem ext_one (s : List UInt8) (k : Nat) (h : k < s.length) : (⟨s.toArray⟩ : ByteArray).extract k (k + 1) = ⟨#[s[k]'h]⟩ := by
  apply ByteArray.ext
  apply Array.ext'
  simp [List.extract]
  rw [List.drop_eq_getElem_cons h]
  rfl
set_option maxRecDepth 100000 in
theorem esc_kind : ∀ n : Nat, n < 256 → plainF (UInt8.ofNat n) = decide ((97 ≤ n ∧ n ≤ 122) ∨ (65 ≤ n ∧ n ≤ 90) ∨ (48 ≤ n ∧ n ≤ 57) ∨ n = 45 ∨ n = 46 ∨ n = 95 ∨ n = 126) := by decide +kernel
theorem idx_at (s : List UInt8) (k : Nat) (hlt : k < s.length) : ∀ h, ((((⟨s.toArray⟩ : ByteArray)[k]'h).toNat : Nat) : Int) = ((s[k]'hlt).toNat : Nat) := fun h => rfl
set_option maxHeartbeats 6400000 in
set_option maxRecDepth 100000 in
theorem refEscape (s : List UInt8) (w : World) (hs : s.length < 1000000000) :
    Calls Tryd.prog 27 #[.string ⟨s.toArray⟩] w fun e w' => e = .returned (.string ⟨(escR s).toArray⟩) ∧ ∃ n, w' = w.drewN n := by
  go_enter Tryd.func27, Tryd.ntmps27
  go_wp2
  go_loopw [3, 4, 5] (fun v i c wr => ∃ (k nd : Nat) (o : List UInt8), k ≤ s.length ∧ i = .int .i64 k ∧ v = .string ⟨o.toArray⟩ ∧ wr = w.drewN nd ∧ o.length ≤ 3 * k ∧ Aside0 (o = escR (s.take k))) (fun _ i _ _ => s.length - (intOf i).toNat)
  case atStart => exact ⟨0, 0, [], by omega, rfl, rfl, rfl, by simp, ⟨rfl⟩⟩
  case round =>
    obtain ⟨k, nd, o, hk, rfl, rfl, rfl, hol, HO⟩ := hrel
    by_cases hlt : k < s.length
    · obtain ⟨n, hn⟩ : ∃ n, (s[k]'hlt).toNat = n := ⟨_, rfl⟩
      have hn2 : n < 256 := hn ▸ (s[k]'hlt).toNat_lt
      have hc : s[k]'hlt = UInt8.ofNat n := by rw [← hn, UInt8.ofNat_toNat]
      have hix : ∀ h, ((((⟨s.toArray⟩ : ByteArray)[k]'h).toNat : Nat) : Int) = (n : Int) := fun h => by rw [← hn]; rfl
      have hk1 : wrap64 ((k : Int) + 1) = (k : Int) + 1 := by unfold wrap64; omega
      have hko : o.length ≤ 3000000000 := by omega
      have hst := Aside0.mk (escR_succ s k hlt)
      have hkind := esc_kind n hn2
      have HC := Aside0.mk hc
      have hext := ext_one s k hlt
      rw [hc] at hext
      have hsl : ∀ W : World, (Instr.slice 9 (.string ⟨s.toArray⟩) (some (.int .i64 (k : Int))) (some (.int .i64 ((k : Int) + 1))) none).run Tryd.prog W = .ok (.string ⟨#[UInt8.ofNat n]⟩) W := fun W => by
        rw [slice_str ⟨s.toArray⟩ .i64 k (k + 1) (by omega) (by show k + 1 ≤ s.length; omega) _ (by omega), hext]
      have HL := Aside0.mk hsl
      clear hc hn hext hsl
      rcases (show (0 ≤ n ∧ n ≤ 31) ∨ (32 ≤ n ∧ n ≤ 32) ∨ (33 ≤ n ∧ n ≤ 44) ∨ (45 ≤ n ∧ n ≤ 45) ∨ (46 ≤ n ∧ n ≤ 46) ∨ (47 ≤ n ∧ n ≤ 47) ∨ (48 ≤ n ∧ n ≤ 57) ∨ (58 ≤ n ∧ n ≤ 64) ∨ (65 ≤ n ∧ n ≤ 90) ∨ (91 ≤ n ∧ n ≤ 94) ∨ (95 ≤ n ∧ n ≤ 95) ∨ (96 ≤ n ∧ n ≤ 96) ∨ (97 ≤ n ∧ n ≤ 122) ∨ (123 ≤ n ∧ n ≤ 125) ∨ (126 ≤ n ∧ n ≤ 126) ∨ (127 ≤ n ∧ n ≤ 255) by omega) with ⟨h, h'⟩ | ⟨h, h'⟩ | ⟨h, h'⟩ | ⟨h, h'⟩ | ⟨h, h'⟩ | ⟨h, h'⟩ | ⟨h, h'⟩ | ⟨h, h'⟩ | ⟨h, h'⟩ | ⟨h, h'⟩ | ⟨h, h'⟩ | ⟨h, h'⟩ | ⟨h, h'⟩ | ⟨h, h'⟩ | ⟨h, h'⟩ | ⟨h, h'⟩
      ·
        rw [decide_eq_false (by omega)] at hkind
        obtain ⟨p, hp⟩ : ∃ p, n / 16 = p := ⟨_, rfl⟩
        obtain ⟨q, hq⟩ : ∃ q, n % 16 = q := ⟨_, rfl⟩
        have hp1 : p < 16 := by omega
        have hq1 : q < 16 := by omega
        have hB := Aside0.mk (show escB (UInt8.ofNat n) = [37, digU p, digU q] by unfold escB; rw [hkind, if_neg (by decide), if_neg (fun e => by have h9 := congrArg UInt8.toNat e; rw [show (UInt8.ofNat n).toNat = n from UInt8.toNat_ofNat_of_lt' hn2] at h9; have h8 : n = 32 := h9; omega), show (UInt8.ofNat n).toNat = n from UInt8.toNat_ofNat_of_lt' hn2, hp, hq])
        have hcat := Aside0.mk (show (⟨o.toArray⟩ : ByteArray) ++ ⟨#[37]⟩ ++ ⟨#[digU p]⟩ ++ ⟨#[digU q]⟩ = ⟨(o ++ [37, digU p, digU q]).toArray⟩ from bl_is (by simp))
        have r1 := wr_div n hn2
        rw [hp] at r1
        have r2 := wr_one p hp1
        have r3 : (n : Int).tmod 16 = (q : Int) := by rw [Int.tmod_eq_emod_of_nonneg (by omega)]; omega
        have r4 := wr_one q hq1
        have l2 := up_slice q hq1
        have l3 := up_slice p hp1
        clear hkind hp hq
        have e0_0 : decide (97 ≤ n) = false := decide_eq_false (by omega)
        have e0_1 : decide ((97 : Int) ≤ (n : Int)) = false := decide_eq_false (by omega)
        have e1_0 : decide (n ≤ 122) = true := decide_eq_true (by omega)
        have e1_1 : decide ((n : Int) ≤ (122 : Int)) = true := decide_eq_true (by omega)
        have e2_0 : decide (65 ≤ n) = false := decide_eq_false (by omega)
        have e2_1 : decide ((65 : Int) ≤ (n : Int)) = false := decide_eq_false (by omega)
        have e3_0 : decide (n ≤ 90) = true := decide_eq_true (by omega)
        have e3_1 : decide ((n : Int) ≤ (90 : Int)) = true := decide_eq_true (by omega)
        have e4_0 : decide (48 ≤ n) = false := decide_eq_false (by omega)
        have e4_1 : decide ((48 : Int) ≤ (n : Int)) = false := decide_eq_false (by omega)
        have e5_0 : decide (n ≤ 57) = true := decide_eq_true (by omega)
        have e5_1 : decide ((n : Int) ≤ (57 : Int)) = true := decide_eq_true (by omega)
        have q45 : ((n : Int) == 45) = false := beq_eq_false_iff_ne.2 (by omega)
        have q46 : ((n : Int) == 46) = false := beq_eq_false_iff_ne.2 (by omega)
        have q95 : ((n : Int) == 95) = false := beq_eq_false_iff_ne.2 (by omega)
        have q126 : ((n : Int) == 126) = false := beq_eq_false_iff_ne.2 (by omega)
        have q32 : ((n : Int) == 32) = false := beq_eq_false_iff_ne.2 (by omega)
        clear h h'
        go_upto_region 10 with fail
        go_region
        all_goals go_wp2
        all_goals go_roundw
        all_goals first
          | (simp [intOf]; omega)
          | exact ⟨k + 1, nd + 1, o ++ [37, digU p, digU q], by omega, by go_num, by rw [hcat.out], rfl, by simp; omega, ⟨by rw [hst.out, HC.out, hB.out, HO.out]⟩⟩
      ·
        obtain rfl : n = 32 := by omega
        rw [decide_eq_false (by omega)] at hkind
        have hB := Aside0.mk (show escB (UInt8.ofNat 32) = [43] by decide)
        have hcat := Aside0.mk (show (⟨o.toArray⟩ : ByteArray) ++ ⟨#[43]⟩ = ⟨(o ++ [43]).toArray⟩ from bl_is (by simp))
        clear hkind h h'
        go_wp2
        go_roundw
        case rel => exact ⟨k + 1, nd, o ++ [43], by omega, by go_num, by rw [hcat.out], rfl, by simp; omega, ⟨by rw [hst.out, HC.out, hB.out, HO.out]⟩⟩
        case measure => simp [intOf]; omega
      ·
        rw [decide_eq_false (by omega)] at hkind
        obtain ⟨p, hp⟩ : ∃ p, n / 16 = p := ⟨_, rfl⟩
        obtain ⟨q, hq⟩ : ∃ q, n % 16 = q := ⟨_, rfl⟩
        have hp1 : p < 16 := by omega
        have hq1 : q < 16 := by omega
        have hB := Aside0.mk (show escB (UInt8.ofNat n) = [37, digU p, digU q] by unfold escB; rw [hkind, if_neg (by decide), if_neg (fun e => by have h9 := congrArg UInt8.toNat e; rw [show (UInt8.ofNat n).toNat = n from UInt8.toNat_ofNat_of_lt' hn2] at h9; have h8 : n = 32 := h9; omega), show (UInt8.ofNat n).toNat = n from UInt8.toNat_ofNat_of_lt' hn2, hp, hq])
        have hcat := Aside0.mk (show (⟨o.toArray⟩ : ByteArray) ++ ⟨#[37]⟩ ++ ⟨#[digU p]⟩ ++ ⟨#[digU q]⟩ = ⟨(o ++ [37, digU p, digU q]).toArray⟩ from bl_is (by simp))
        have r1 := wr_div n hn2
        rw [hp] at r1
        have r2 := wr_one p hp1
        have r3 : (n : Int).tmod 16 = (q : Int) := by rw [Int.tmod_eq_emod_of_nonneg (by omega)]; omega
        have r4 := wr_one q hq1
        have l2 := up_slice q hq1
        have l3 := up_slice p hp1
        clear hkind hp hq
        have e0_0 : decide (97 ≤ n) = false := decide_eq_false (by omega)
        have e0_1 : decide ((97 : Int) ≤ (n : Int)) = false := decide_eq_false (by omega)
        have e1_0 : decide (n ≤ 122) = true := decide_eq_true (by omega)
        have e1_1 : decide ((n : Int) ≤ (122 : Int)) = true := decide_eq_true (by omega)
        have e2_0 : decide (65 ≤ n) = false := decide_eq_false (by omega)
        have e2_1 : decide ((65 : Int) ≤ (n : Int)) = false := decide_eq_false (by omega)
        have e3_0 : decide (n ≤ 90) = true := decide_eq_true (by omega)
        have e3_1 : decide ((n : Int) ≤ (90 : Int)) = true := decide_eq_true (by omega)
        have e4_0 : decide (48 ≤ n) = false := decide_eq_false (by omega)
        have e4_1 : decide ((48 : Int) ≤ (n : Int)) = false := decide_eq_false (by omega)
        have e5_0 : decide (n ≤ 57) = true := decide_eq_true (by omega)
        have e5_1 : decide ((n : Int) ≤ (57 : Int)) = true := decide_eq_true (by omega)
        have q45 : ((n : Int) == 45) = false := beq_eq_false_iff_ne.2 (by omega)
        have q46 : ((n : Int) == 46) = false := beq_eq_false_iff_ne.2 (by omega)
        have q95 : ((n : Int) == 95) = false := beq_eq_false_iff_ne.2 (by omega)
        have q126 : ((n : Int) == 126) = false := beq_eq_false_iff_ne.2 (by omega)
        have q32 : ((n : Int) == 32) = false := beq_eq_false_iff_ne.2 (by omega)
        clear h h'
        go_upto_region 10 with fail
        go_region
        all_goals go_wp2
        all_goals go_roundw
        all_goals first
          | (simp [intOf]; omega)
          | exact ⟨k + 1, nd + 1, o ++ [37, digU p, digU q], by omega, by go_num, by rw [hcat.out], rfl, by simp; omega, ⟨by rw [hst.out, HC.out, hB.out, HO.out]⟩⟩
      ·
        rw [decide_eq_true (by omega)] at hkind
        have hB := Aside0.mk (show escB (UInt8.ofNat n) = [UInt8.ofNat n] by unfold escB; rw [if_pos hkind])
        have hcat := Aside0.mk (show (⟨o.toArray⟩ : ByteArray) ++ ⟨#[UInt8.ofNat n]⟩ = ⟨(o ++ [UInt8.ofNat n]).toArray⟩ from bl_is (by simp))
        clear hkind
        have e0_0 : decide (97 ≤ n) = false := decide_eq_false (by omega)
        have e0_1 : decide ((97 : Int) ≤ (n : Int)) = false := decide_eq_false (by omega)
        have e1_0 : decide (n ≤ 122) = true := decide_eq_true (by omega)
        have e1_1 : decide ((n : Int) ≤ (122 : Int)) = true := decide_eq_true (by omega)
        have e2_0 : decide (65 ≤ n) = false := decide_eq_false (by omega)
        have e2_1 : decide ((65 : Int) ≤ (n : Int)) = false := decide_eq_false (by omega)
        have e3_0 : decide (n ≤ 90) = true := decide_eq_true (by omega)
        have e3_1 : decide ((n : Int) ≤ (90 : Int)) = true := decide_eq_true (by omega)
        have e4_0 : decide (48 ≤ n) = false := decide_eq_false (by omega)
        have e4_1 : decide ((48 : Int) ≤ (n : Int)) = false := decide_eq_false (by omega)
        have e5_0 : decide (n ≤ 57) = true := decide_eq_true (by omega)
        have e5_1 : decide ((n : Int) ≤ (57 : Int)) = true := decide_eq_true (by omega)
        have q45 : ((n : Int) == 45) = true := beq_iff_eq.2 (by omega)
        have q46 : ((n : Int) == 46) = false := beq_eq_false_iff_ne.2 (by omega)
        have q95 : ((n : Int) == 95) = false := beq_eq_false_iff_ne.2 (by omega)
        have q126 : ((n : Int) == 126) = false := beq_eq_false_iff_ne.2 (by omega)
        have q32 : ((n : Int) == 32) = false := beq_eq_false_iff_ne.2 (by omega)
        clear h h'
        have hsl := HL.out
        go_wp2
        go_roundw
        case rel => exact ⟨k + 1, nd, o ++ [UInt8.ofNat n], by omega, by go_num, by rw [hcat.out], rfl, by simp; omega, ⟨by rw [hst.out, HC.out, hB.out, HO.out]⟩⟩
        case measure => simp [intOf]; omega
      ·
        rw [decide_eq_true (by omega)] at hkind
        have hB := Aside0.mk (show escB (UInt8.ofNat n) = [UInt8.ofNat n] by unfold escB; rw [if_pos hkind])
        have hcat := Aside0.mk (show (⟨o.toArray⟩ : ByteArray) ++ ⟨#[UInt8.ofNat n]⟩ = ⟨(o ++ [UInt8.ofNat n]).toArray⟩ from bl_is (by simp))
        clear hkind
        have e0_0 : decide (97 ≤ n) = false := decide_eq_false (by omega)
        have e0_1 : decide ((97 : Int) ≤ (n : Int)) = false := decide_eq_false (by omega)
        have e1_0 : decide (n ≤ 122) = true := decide_eq_true (by omega)
        have e1_1 : decide ((n : Int) ≤ (122 : Int)) = true := decide_eq_true (by omega)
        have e2_0 : decide (65 ≤ n) = false := decide_eq_false (by omega)
        have e2_1 : decide ((65 : Int) ≤ (n : Int)) = false := decide_eq_false (by omega)
        have e3_0 : decide (n ≤ 90) = true := decide_eq_true (by omega)
        have e3_1 : decide ((n : Int) ≤ (90 : Int)) = true := decide_eq_true (by omega)
        have e4_0 : decide (48 ≤ n) = false := decide_eq_false (by omega)
        have e4_1 : decide ((48 : Int) ≤ (n : Int)) = false := decide_eq_false (by omega)
        have e5_0 : decide (n ≤ 57) = true := decide_eq_true (by omega)
        have e5_1 : decide ((n : Int) ≤ (57 : Int)) = true := decide_eq_true (by omega)
        have q45 : ((n : Int) == 45) = false := beq_eq_false_iff_ne.2 (by omega)
        have q46 : ((n : Int) == 46) = true := beq_iff_eq.2 (by omega)
        have q95 : ((n : Int) == 95) = false := beq_eq_false_iff_ne.2 (by omega)
        have q126 : ((n : Int) == 126) = false := beq_eq_false_iff_ne.2 (by omega)
        have q32 : ((n : Int) == 32) = false := beq_eq_false_iff_ne.2 (by omega)
        clear h h'
        have hsl := HL.out
        go_wp2
        go_roundw
        case rel => exact ⟨k + 1, nd, o ++ [UInt8.ofNat n], by omega, by go_num, by rw [hcat.out], rfl, by simp; omega, ⟨by rw [hst.out, HC.out, hB.out, HO.out]⟩⟩
        case measure => simp [intOf]; omega
      ·
        rw [decide_eq_false (by omega)] at hkind
        obtain ⟨p, hp⟩ : ∃ p, n / 16 = p := ⟨_, rfl⟩
        obtain ⟨q, hq⟩ : ∃ q, n % 16 = q := ⟨_, rfl⟩
        have hp1 : p < 16 := by omega
        have hq1 : q < 16 := by omega
        have hB := Aside0.mk (show escB (UInt8.ofNat n) = [37, digU p, digU q] by unfold escB; rw [hkind, if_neg (by decide), if_neg (fun e => by have h9 := congrArg UInt8.toNat e; rw [show (UInt8.ofNat n).toNat = n from UInt8.toNat_ofNat_of_lt' hn2] at h9; have h8 : n = 32 := h9; omega), show (UInt8.ofNat n).toNat = n from UInt8.toNat_ofNat_of_lt' hn2, hp, hq])
        have hcat := Aside0.mk (show (⟨o.toArray⟩ : ByteArray) ++ ⟨#[37]⟩ ++ ⟨#[digU p]⟩ ++ ⟨#[digU q]⟩ = ⟨(o ++ [37, digU p, digU q]).toArray⟩ from bl_is (by simp))
        have r1 := wr_div n hn2
        rw [hp] at r1
        have r2 := wr_one p hp1
        have r3 : (n : Int).tmod 16 = (q : Int) := by rw [Int.tmod_eq_emod_of_nonneg (by omega)]; omega
        have r4 := wr_one q hq1
        have l2 := up_slice q hq1
        have l3 := up_slice p hp1
        clear hkind hp hq
        have e0_0 : decide (97 ≤ n) = false := decide_eq_false (by omega)
        have e0_1 : decide ((97 : Int) ≤ (n : Int)) = false := decide_eq_false (by omega)
        have e1_0 : decide (n ≤ 122) = true := decide_eq_true (by omega)
        have e1_1 : decide ((n : Int) ≤ (122 : Int)) = true := decide_eq_true (by omega)
        have e2_0 : decide (65 ≤ n) = false := decide_eq_false (by omega)
        have e2_1 : decide ((65 : Int) ≤ (n : Int)) = false := decide_eq_false (by omega)
        have e3_0 : decide (n ≤ 90) = true := decide_eq_true (by omega)
        have e3_1 : decide ((n : Int) ≤ (90 : Int)) = true := decide_eq_true (by omega)
        have e4_0 : decide (48 ≤ n) = false := decide_eq_false (by omega)
        have e4_1 : decide ((48 : Int) ≤ (n : Int)) = false := decide_eq_false (by omega)
        have e5_0 : decide (n ≤ 57) = true := decide_eq_true (by omega)
        have e5_1 : decide ((n : Int) ≤ (57 : Int)) = true := decide_eq_true (by omega)
        have q45 : ((n : Int) == 45) = false := beq_eq_false_iff_ne.2 (by omega)
        have q46 : ((n : Int) == 46) = false := beq_eq_false_iff_ne.2 (by omega)
        have q95 : ((n : Int) == 95) = false := beq_eq_false_iff_ne.2 (by omega)
        have q126 : ((n : Int) == 126) = false := beq_eq_false_iff_ne.2 (by omega)
        have q32 : ((n : Int) == 32) = false := beq_eq_false_iff_ne.2 (by omega)
        clear h h'
        go_upto_region 10 with fail
        go_region
        all_goals go_wp2
        all_goals go_roundw
        all_goals first
          | (simp [intOf]; omega)
          | exact ⟨k + 1, nd + 1, o ++ [37, digU p, digU q], by omega, by go_num, by rw [hcat.out], rfl, by simp; omega, ⟨by rw [hst.out, HC.out, hB.out, HO.out]⟩⟩
      ·
        rw [decide_eq_true (by omega)] at hkind
        have hB := Aside0.mk (show escB (UInt8.ofNat n) = [UInt8.ofNat n] by unfold escB; rw [if_pos hkind])
        have hcat := Aside0.mk (show (⟨o.toArray⟩ : ByteArray) ++ ⟨#[UInt8.ofNat n]⟩ = ⟨(o ++ [UInt8.ofNat n]).toArray⟩ from bl_is (by simp))
        clear hkind
        have e0_0 : decide (97 ≤ n) = false := decide_eq_false (by omega)
        have e0_1 : decide ((97 : Int) ≤ (n : Int)) = false := decide_eq_false (by omega)
        have e1_0 : decide (n ≤ 122) = true := decide_eq_true (by omega)
        have e1_1 : decide ((n : Int) ≤ (122 : Int)) = true := decide_eq_true (by omega)
        have e2_0 : decide (65 ≤ n) = false := decide_eq_false (by omega)
        have e2_1 : decide ((65 : Int) ≤ (n : Int)) = false := decide_eq_false (by omega)
        have e3_0 : decide (n ≤ 90) = true := decide_eq_true (by omega)
        have e3_1 : decide ((n : Int) ≤ (90 : Int)) = true := decide_eq_true (by omega)
        have e4_0 : decide (48 ≤ n) = true := decide_eq_true (by omega)
        have e4_1 : decide ((48 : Int) ≤ (n : Int)) = true := decide_eq_true (by omega)
        have e5_0 : decide (n ≤ 57) = true := decide_eq_true (by omega)
        have e5_1 : decide ((n : Int) ≤ (57 : Int)) = true := decide_eq_true (by omega)
        have q45 : ((n : Int) == 45) = false := beq_eq_false_iff_ne.2 (by omega)
        have q46 : ((n : Int) == 46) = false := beq_eq_false_iff_ne.2 (by omega)
        have q95 : ((n : Int) == 95) = false := beq_eq_false_iff_ne.2 (by omega)
        have q126 : ((n : Int) == 126) = false := beq_eq_false_iff_ne.2 (by omega)
        have q32 : ((n : Int) == 32) = false := beq_eq_false_iff_ne.2 (by omega)
        clear h h'
        have hsl := HL.out
        go_wp2
        go_roundw
        case rel => exact ⟨k + 1, nd, o ++ [UInt8.ofNat n], by omega, by go_num, by rw [hcat.out], rfl, by simp; omega, ⟨by rw [hst.out, HC.out, hB.out, HO.out]⟩⟩
        case measure => simp [intOf]; omega
      ·
        rw [decide_eq_false (by omega)] at hkind
        obtain ⟨p, hp⟩ : ∃ p, n / 16 = p := ⟨_, rfl⟩
        obtain ⟨q, hq⟩ : ∃ q, n % 16 = q := ⟨_, rfl⟩
        have hp1 : p < 16 := by omega
        have hq1 : q < 16 := by omega
        have hB := Aside0.mk (show escB (UInt8.ofNat n) = [37, digU p, digU q] by unfold escB; rw [hkind, if_neg (by decide), if_neg (fun e => by have h9 := congrArg UInt8.toNat e; rw [show (UInt8.ofNat n).toNat = n from UInt8.toNat_ofNat_of_lt' hn2] at h9; have h8 : n = 32 := h9; omega), show (UInt8.ofNat n).toNat = n from UInt8.toNat_ofNat_of_lt' hn2, hp, hq])
        have hcat := Aside0.mk (show (⟨o.toArray⟩ : ByteArray) ++ ⟨#[37]⟩ ++ ⟨#[digU p]⟩ ++ ⟨#[digU q]⟩ = ⟨(o ++ [37, digU p, digU q]).toArray⟩ from bl_is (by simp))
        have r1 := wr_div n hn2
        rw [hp] at r1
        have r2 := wr_one p hp1
        have r3 : (n : Int).tmod 16 = (q : Int) := by rw [Int.tmod_eq_emod_of_nonneg (by omega)]; omega
        have r4 := wr_one q hq1
        have l2 := up_slice q hq1
        have l3 := up_slice p hp1
        clear hkind hp hq
        have e0_0 : decide (97 ≤ n) = false := decide_eq_false (by omega)
        have e0_1 : decide ((97 : Int) ≤ (n : Int)) = false := decide_eq_false (by omega)
        have e1_0 : decide (n ≤ 122) = true := decide_eq_true (by omega)
        have e1_1 : decide ((n : Int) ≤ (122 : Int)) = true := decide_eq_true (by omega)
        have e2_0 : decide (65 ≤ n) = false := decide_eq_false (by omega)
        have e2_1 : decide ((65 : Int) ≤ (n : Int)) = false := decide_eq_false (by omega)
        have e3_0 : decide (n ≤ 90) = true := decide_eq_true (by omega)
        have e3_1 : decide ((n : Int) ≤ (90 : Int)) = true := decide_eq_true (by omega)
        have e4_0 : decide (48 ≤ n) = true := decide_eq_true (by omega)
        have e4_1 : decide ((48 : Int) ≤ (n : Int)) = true := decide_eq_true (by omega)
        have e5_0 : decide (n ≤ 57) = false := decide_eq_false (by omega)
        have e5_1 : decide ((n : Int) ≤ (57 : Int)) = false := decide_eq_false (by omega)
        have q45 : ((n : Int) == 45) = false := beq_eq_false_iff_ne.2 (by omega)
        have q46 : ((n : Int) == 46) = false := beq_eq_false_iff_ne.2 (by omega)
        have q95 : ((n : Int) == 95) = false := beq_eq_false_iff_ne.2 (by omega)
        have q126 : ((n : Int) == 126) = false := beq_eq_false_iff_ne.2 (by omega)
        have q32 : ((n : Int) == 32) = false := beq_eq_false_iff_ne.2 (by omega)
        clear h h'
        go_upto_region 10 with fail
        go_region
        all_goals go_wp2
        all_goals go_roundw
        all_goals first
          | (simp [intOf]; omega)
          | exact ⟨k + 1, nd + 1, o ++ [37, digU p, digU q], by omega, by go_num, by rw [hcat.out], rfl, by simp; omega, ⟨by rw [hst.out, HC.out, hB.out, HO.out]⟩⟩
      ·
        rw [decide_eq_true (by omega)] at hkind
        have hB := Aside0.mk (show escB (UInt8.ofNat n) = [UInt8.ofNat n] by unfold escB; rw [if_pos hkind])
        have hcat := Aside0.mk (show (⟨o.toArray⟩ : ByteArray) ++ ⟨#[UInt8.ofNat n]⟩ = ⟨(o ++ [UInt8.ofNat n]).toArray⟩ from bl_is (by simp))
        clear hkind
        have e0_0 : decide (97 ≤ n) = false := decide_eq_false (by omega)
        have e0_1 : decide ((97 : Int) ≤ (n : Int)) = false := decide_eq_false (by omega)
        have e1_0 : decide (n ≤ 122) = true := decide_eq_true (by omega)
        have e1_1 : decide ((n : Int) ≤ (122 : Int)) = true := decide_eq_true (by omega)
        have e2_0 : decide (65 ≤ n) = true := decide_eq_true (by omega)
        have e2_1 : decide ((65 : Int) ≤ (n : Int)) = true := decide_eq_true (by omega)
        have e3_0 : decide (n ≤ 90) = true := decide_eq_true (by omega)
        have e3_1 : decide ((n : Int) ≤ (90 : Int)) = true := decide_eq_true (by omega)
        have e4_0 : decide (48 ≤ n) = true := decide_eq_true (by omega)
        have e4_1 : decide ((48 : Int) ≤ (n : Int)) = true := decide_eq_true (by omega)
        have e5_0 : decide (n ≤ 57) = false := decide_eq_false (by omega)
        have e5_1 : decide ((n : Int) ≤ (57 : Int)) = false := decide_eq_false (by omega)
        have q45 : ((n : Int) == 45) = false := beq_eq_false_iff_ne.2 (by omega)
        have q46 : ((n : Int) == 46) = false := beq_eq_false_iff_ne.2 (by omega)
        have q95 : ((n : Int) == 95) = false := beq_eq_false_iff_ne.2 (by omega)
        have q126 : ((n : Int) == 126) = false := beq_eq_false_iff_ne.2 (by omega)
        have q32 : ((n : Int) == 32) = false := beq_eq_false_iff_ne.2 (by omega)
        clear h h'
        have hsl := HL.out
        go_wp2
        go_roundw
        case rel => exact ⟨k + 1, nd, o ++ [UInt8.ofNat n], by omega, by go_num, by rw [hcat.out], rfl, by simp; omega, ⟨by rw [hst.out, HC.out, hB.out, HO.out]⟩⟩
        case measure => simp [intOf]; omega
      ·
        rw [decide_eq_false (by omega)] at hkind
        obtain ⟨p, hp⟩ : ∃ p, n / 16 = p := ⟨_, rfl⟩
        obtain ⟨q, hq⟩ : ∃ q, n % 16 = q := ⟨_, rfl⟩
        have hp1 : p < 16 := by omega
        have hq1 : q < 16 := by omega
        have hB := Aside0.mk (show escB (UInt8.ofNat n) = [37, digU p, digU q] by unfold escB; rw [hkind, if_neg (by decide), if_neg (fun e => by have h9 := congrArg UInt8.toNat e; rw [show (UInt8.ofNat n).toNat = n from UInt8.toNat_ofNat_of_lt' hn2] at h9; have h8 : n = 32 := h9; omega), show (UInt8.ofNat n).toNat = n from UInt8.toNat_ofNat_of_lt' hn2, hp, hq])
        have hcat := Aside0.mk (show (⟨o.toArray⟩ : ByteArray) ++ ⟨#[37]⟩ ++ ⟨#[digU p]⟩ ++ ⟨#[digU q]⟩ = ⟨(o ++ [37, digU p, digU q]).toArray⟩ from bl_is (by simp))
        have r1 := wr_div n hn2
        rw [hp] at r1
        have r2 := wr_one p hp1
        have r3 : (n : Int).tmod 16 = (q : Int) := by rw [Int.tmod_eq_emod_of_nonneg (by omega)]; omega
        have r4 := wr_one q hq1
        have l2 := up_slice q hq1
        have l3 := up_slice p hp1
        clear hkind hp hq
        have e0_0 : decide (97 ≤ n) = false := decide_eq_false (by omega)
        have e0_1 : decide ((97 : Int) ≤ (n : Int)) = false := decide_eq_false (by omega)
        have e1_0 : decide (n ≤ 122) = true := decide_eq_true (by omega)
        have e1_1 : decide ((n : Int) ≤ (122 : Int)) = true := decide_eq_true (by omega)
        have e2_0 : decide (65 ≤ n) = true := decide_eq_true (by omega)
        have e2_1 : decide ((65 : Int) ≤ (n : Int)) = true := decide_eq_true (by omega)
        have e3_0 : decide (n ≤ 90) = false := decide_eq_false (by omega)
        have e3_1 : decide ((n : Int) ≤ (90 : Int)) = false := decide_eq_false (by omega)
        have e4_0 : decide (48 ≤ n) = true := decide_eq_true (by omega)
        have e4_1 : decide ((48 : Int) ≤ (n : Int)) = true := decide_eq_true (by omega)
        have e5_0 : decide (n ≤ 57) = false := decide_eq_false (by omega)
        have e5_1 : decide ((n : Int) ≤ (57 : Int)) = false := decide_eq_false (by omega)
        have q45 : ((n : Int) == 45) = false := beq_eq_false_iff_ne.2 (by omega)
        have q46 : ((n : Int) == 46) = false := beq_eq_false_iff_ne.2 (by omega)
        have q95 : ((n : Int) == 95) = false := beq_eq_false_iff_ne.2 (by omega)
        have q126 : ((n : Int) == 126) = false := beq_eq_false_iff_ne.2 (by omega)
        have q32 : ((n : Int) == 32) = false := beq_eq_false_iff_ne.2 (by omega)
        clear h h'
        go_upto_region 10 with fail
        go_region
        all_goals go_wp2
        all_goals go_roundw
        all_goals first
          | (simp [intOf]; omega)
          | exact ⟨k + 1, nd + 1, o ++ [37, digU p, digU q], by omega, by go_num, by rw [hcat.out], rfl, by simp; omega, ⟨by rw [hst.out, HC.out, hB.out, HO.out]⟩⟩
      ·
        rw [decide_eq_true (by omega)] at hkind
        have hB := Aside0.mk (show escB (UInt8.ofNat n) = [UInt8.ofNat n] by unfold escB; rw [if_pos hkind])
        have hcat := Aside0.mk (show (⟨o.toArray⟩ : ByteArray) ++ ⟨#[UInt8.ofNat n]⟩ = ⟨(o ++ [UInt8.ofNat n]).toArray⟩ from bl_is (by simp))
        clear hkind
        have e0_0 : decide (97 ≤ n) = false := decide_eq_false (by omega)
        have e0_1 : decide ((97 : Int) ≤ (n : Int)) = false := decide_eq_false (by omega)
        have e1_0 : decide (n ≤ 122) = true := decide_eq_true (by omega)
        have e1_1 : decide ((n : Int) ≤ (122 : Int)) = true := decide_eq_true (by omega)
        have e2_0 : decide (65 ≤ n) = true := decide_eq_true (by omega)
        have e2_1 : decide ((65 : Int) ≤ (n : Int)) = true := decide_eq_true (by omega)
        have e3_0 : decide (n ≤ 90) = false := decide_eq_false (by omega)
        have e3_1 : decide ((n : Int) ≤ (90 : Int)) = false := decide_eq_false (by omega)
        have e4_0 : decide (48 ≤ n) = true := decide_eq_true (by omega)
        have e4_1 : decide ((48 : Int) ≤ (n : Int)) = true := decide_eq_true (by omega)
        have e5_0 : decide (n ≤ 57) = false := decide_eq_false (by omega)
        have e5_1 : decide ((n : Int) ≤ (57 : Int)) = false := decide_eq_false (by omega)
        have q45 : ((n : Int) == 45) = false := beq_eq_false_iff_ne.2 (by omega)
        have q46 : ((n : Int) == 46) = false := beq_eq_false_iff_ne.2 (by omega)
        have q95 : ((n : Int) == 95) = true := beq_iff_eq.2 (by omega)
        have q126 : ((n : Int) == 126) = false := beq_eq_false_iff_ne.2 (by omega)
        have q32 : ((n : Int) == 32) = false := beq_eq_false_iff_ne.2 (by omega)
        clear h h'
        have hsl := HL.out
        go_wp2
        go_roundw
        case rel => exact ⟨k + 1, nd, o ++ [UInt8.ofNat n], by omega, by go_num, by rw [hcat.out], rfl, by simp; omega, ⟨by rw [hst.out, HC.out, hB.out, HO.out]⟩⟩
        case measure => simp [intOf]; omega
      ·
        rw [decide_eq_false (by omega)] at hkind
        obtain ⟨p, hp⟩ : ∃ p, n / 16 = p := ⟨_, rfl⟩
        obtain ⟨q, hq⟩ : ∃ q, n % 16 = q := ⟨_, rfl⟩
        have hp1 : p < 16 := by omega
        have hq1 : q < 16 := by omega
        have hB := Aside0.mk (show escB (UInt8.ofNat n) = [37, digU p, digU q] by unfold escB; rw [hkind, if_neg (by decide), if_neg (fun e => by have h9 := congrArg UInt8.toNat e; rw [show (UInt8.ofNat n).toNat = n from UInt8.toNat_ofNat_of_lt' hn2] at h9; have h8 : n = 32 := h9; omega), show (UInt8.ofNat n).toNat = n from UInt8.toNat_ofNat_of_lt' hn2, hp, hq])
        have hcat := Aside0.mk (show (⟨o.toArray⟩ : ByteArray) ++ ⟨#[37]⟩ ++ ⟨#[digU p]⟩ ++ ⟨#[digU q]⟩ = ⟨(o ++ [37, digU p, digU q]).toArray⟩ from bl_is (by simp))
        have r1 := wr_div n hn2
        rw [hp] at r1
        have r2 := wr_one p hp1
        have r3 : (n : Int).tmod 16 = (q : Int) := by rw [Int.tmod_eq_emod_of_nonneg (by omega)]; omega
        have r4 := wr_one q hq1
        have l2 := up_slice q hq1
        have l3 := up_slice p hp1
        clear hkind hp hq
        have e0_0 : decide (97 ≤ n) = false := decide_eq_false (by omega)
        have e0_1 : decide ((97 : Int) ≤ (n : Int)) = false := decide_eq_false (by omega)
        have e1_0 : decide (n ≤ 122) = true := decide_eq_true (by omega)
        have e1_1 : decide ((n : Int) ≤ (122 : Int)) = true := decide_eq_true (by omega)
        have e2_0 : decide (65 ≤ n) = true := decide_eq_true (by omega)
        have e2_1 : decide ((65 : Int) ≤ (n : Int)) = true := decide_eq_true (by omega)
        have e3_0 : decide (n ≤ 90) = false := decide_eq_false (by omega)
        have e3_1 : decide ((n : Int) ≤ (90 : Int)) = false := decide_eq_false (by omega)
        have e4_0 : decide (48 ≤ n) = true := decide_eq_true (by omega)
        have e4_1 : decide ((48 : Int) ≤ (n : Int)) = true := decide_eq_true (by omega)
        have e5_0 : decide (n ≤ 57) = false := decide_eq_false (by omega)
        have e5_1 : decide ((n : Int) ≤ (57 : Int)) = false := decide_eq_false (by omega)
        have q45 : ((n : Int) == 45) = false := beq_eq_false_iff_ne.2 (by omega)
        have q46 : ((n : Int) == 46) = false := beq_eq_false_iff_ne.2 (by omega)
        have q95 : ((n : Int) == 95) = false := beq_eq_false_iff_ne.2 (by omega)
        have q126 : ((n : Int) == 126) = false := beq_eq_false_iff_ne.2 (by omega)
        have q32 : ((n : Int) == 32) = false := beq_eq_false_iff_ne.2 (by omega)
        clear h h'
        go_upto_region 10 with fail
        go_region
        all_goals go_wp2
        all_goals go_roundw
        all_goals first
          | (simp [intOf]; omega)
          | exact ⟨k + 1, nd + 1, o ++ [37, digU p, digU q], by omega, by go_num, by rw [hcat.out], rfl, by simp; omega, ⟨by rw [hst.out, HC.out, hB.out, HO.out]⟩⟩
      ·
        rw [decide_eq_true (by omega)] at hkind
        have hB := Aside0.mk (show escB (UInt8.ofNat n) = [UInt8.ofNat n] by unfold escB; rw [if_pos hkind])
        have hcat := Aside0.mk (show (⟨o.toArray⟩ : ByteArray) ++ ⟨#[UInt8.ofNat n]⟩ = ⟨(o ++ [UInt8.ofNat n]).toArray⟩ from bl_is (by simp))
        clear hkind
        have e0_0 : decide (97 ≤ n) = true := decide_eq_true (by omega)
        have e0_1 : decide ((97 : Int) ≤ (n : Int)) = true := decide_eq_true (by omega)
        have e1_0 : decide (n ≤ 122) = true := decide_eq_true (by omega)
        have e1_1 : decide ((n : Int) ≤ (122 : Int)) = true := decide_eq_true (by omega)
        have e2_0 : decide (65 ≤ n) = true := decide_eq_true (by omega)
        have e2_1 : decide ((65 : Int) ≤ (n : Int)) = true := decide_eq_true (by omega)
        have e3_0 : decide (n ≤ 90) = false := decide_eq_false (by omega)
        have e3_1 : decide ((n : Int) ≤ (90 : Int)) = false := decide_eq_false (by omega)
        have e4_0 : decide (48 ≤ n) = true := decide_eq_true (by omega)
        have e4_1 : decide ((48 : Int) ≤ (n : Int)) = true := decide_eq_true (by omega)
        have e5_0 : decide (n ≤ 57) = false := decide_eq_false (by omega)
        have e5_1 : decide ((n : Int) ≤ (57 : Int)) = false := decide_eq_false (by omega)
        have q45 : ((n : Int) == 45) = false := beq_eq_false_iff_ne.2 (by omega)
        have q46 : ((n : Int) == 46) = false := beq_eq_false_iff_ne.2 (by omega)
        have q95 : ((n : Int) == 95) = false := beq_eq_false_iff_ne.2 (by omega)
        have q126 : ((n : Int) == 126) = false := beq_eq_false_iff_ne.2 (by omega)
        have q32 : ((n : Int) == 32) = false := beq_eq_false_iff_ne.2 (by omega)
        clear h h'
        have hsl := HL.out
        go_wp2
        go_roundw
        case rel => exact ⟨k + 1, nd, o ++ [UInt8.ofNat n], by omega, by go_num, by rw [hcat.out], rfl, by simp; omega, ⟨by rw [hst.out, HC.out, hB.out, HO.out]⟩⟩
        case measure => simp [intOf]; omega
      ·
        rw [decide_eq_false (by omega)] at hkind
        obtain ⟨p, hp⟩ : ∃ p, n / 16 = p := ⟨_, rfl⟩
        obtain ⟨q, hq⟩ : ∃ q, n % 16 = q := ⟨_, rfl⟩
        have hp1 : p < 16 := by omega
        have hq1 : q < 16 := by omega
        have hB := Aside0.mk (show escB (UInt8.ofNat n) = [37, digU p, digU q] by unfold escB; rw [hkind, if_neg (by decide), if_neg (fun e => by have h9 := congrArg UInt8.toNat e; rw [show (UInt8.ofNat n).toNat = n from UInt8.toNat_ofNat_of_lt' hn2] at h9; have h8 : n = 32 := h9; omega), show (UInt8.ofNat n).toNat = n from UInt8.toNat_ofNat_of_lt' hn2, hp, hq])
        have hcat := Aside0.mk (show (⟨o.toArray⟩ : ByteArray) ++ ⟨#[37]⟩ ++ ⟨#[digU p]⟩ ++ ⟨#[digU q]⟩ = ⟨(o ++ [37, digU p, digU q]).toArray⟩ from bl_is (by simp))
        have r1 := wr_div n hn2
        rw [hp] at r1
        have r2 := wr_one p hp1
        have r3 : (n : Int).tmod 16 = (q : Int) := by rw [Int.tmod_eq_emod_of_nonneg (by omega)]; omega
        have r4 := wr_one q hq1
        have l2 := up_slice q hq1
        have l3 := up_slice p hp1
        clear hkind hp hq
        have e0_0 : decide (97 ≤ n) = true := decide_eq_true (by omega)
        have e0_1 : decide ((97 : Int) ≤ (n : Int)) = true := decide_eq_true (by omega)
        have e1_0 : decide (n ≤ 122) = false := decide_eq_false (by omega)
        have e1_1 : decide ((n : Int) ≤ (122 : Int)) = false := decide_eq_false (by omega)
        have e2_0 : decide (65 ≤ n) = true := decide_eq_true (by omega)
        have e2_1 : decide ((65 : Int) ≤ (n : Int)) = true := decide_eq_true (by omega)
        have e3_0 : decide (n ≤ 90) = false := decide_eq_false (by omega)
        have e3_1 : decide ((n : Int) ≤ (90 : Int)) = false := decide_eq_false (by omega)
        have e4_0 : decide (48 ≤ n) = true := decide_eq_true (by omega)
        have e4_1 : decide ((48 : Int) ≤ (n : Int)) = true := decide_eq_true (by omega)
        have e5_0 : decide (n ≤ 57) = false := decide_eq_false (by omega)
        have e5_1 : decide ((n : Int) ≤ (57 : Int)) = false := decide_eq_false (by omega)
        have q45 : ((n : Int) == 45) = false := beq_eq_false_iff_ne.2 (by omega)
        have q46 : ((n : Int) == 46) = false := beq_eq_false_iff_ne.2 (by omega)
        have q95 : ((n : Int) == 95) = false := beq_eq_false_iff_ne.2 (by omega)
        have q126 : ((n : Int) == 126) = false := beq_eq_false_iff_ne.2 (by omega)
        have q32 : ((n : Int) == 32) = false := beq_eq_false_iff_ne.2 (by omega)
        clear h h'
        go_upto_region 10 with fail
        go_region
        all_goals go_wp2
        all_goals go_roundw
        all_goals first
          | (simp [intOf]; omega)
          | exact ⟨k + 1, nd + 1, o ++ [37, digU p, digU q], by omega, by go_num, by rw [hcat.out], rfl, by simp; omega, ⟨by rw [hst.out, HC.out, hB.out, HO.out]⟩⟩
      ·
        rw [decide_eq_true (by omega)] at hkind
        have hB := Aside0.mk (show escB (UInt8.ofNat n) = [UInt8.ofNat n] by unfold escB; rw [if_pos hkind])
        have hcat := Aside0.mk (show (⟨o.toArray⟩ : ByteArray) ++ ⟨#[UInt8.ofNat n]⟩ = ⟨(o ++ [UInt8.ofNat n]).toArray⟩ from bl_is (by simp))
        clear hkind
        have e0_0 : decide (97 ≤ n) = true := decide_eq_true (by omega)
        have e0_1 : decide ((97 : Int) ≤ (n : Int)) = true := decide_eq_true (by omega)
        have e1_0 : decide (n ≤ 122) = false := decide_eq_false (by omega)
        have e1_1 : decide ((n : Int) ≤ (122 : Int)) = false := decide_eq_false (by omega)
        have e2_0 : decide (65 ≤ n) = true := decide_eq_true (by omega)
        have e2_1 : decide ((65 : Int) ≤ (n : Int)) = true := decide_eq_true (by omega)
        have e3_0 : decide (n ≤ 90) = false := decide_eq_false (by omega)
        have e3_1 : decide ((n : Int) ≤ (90 : Int)) = false := decide_eq_false (by omega)
        have e4_0 : decide (48 ≤ n) = true := decide_eq_true (by omega)
        have e4_1 : decide ((48 : Int) ≤ (n : Int)) = true := decide_eq_true (by omega)
        have e5_0 : decide (n ≤ 57) = false := decide_eq_false (by omega)
        have e5_1 : decide ((n : Int) ≤ (57 : Int)) = false := decide_eq_false (by omega)
        have q45 : ((n : Int) == 45) = false := beq_eq_false_iff_ne.2 (by omega)
        have q46 : ((n : Int) == 46) = false := beq_eq_false_iff_ne.2 (by omega)
        have q95 : ((n : Int) == 95) = false := beq_eq_false_iff_ne.2 (by omega)
        have q126 : ((n : Int) == 126) = true := beq_iff_eq.2 (by omega)
        have q32 : ((n : Int) == 32) = false := beq_eq_false_iff_ne.2 (by omega)
        clear h h'
        have hsl := HL.out
        go_wp2
        go_roundw
        case rel => exact ⟨k + 1, nd, o ++ [UInt8.ofNat n], by omega, by go_num, by rw [hcat.out], rfl, by simp; omega, ⟨by rw [hst.out, HC.out, hB.out, HO.out]⟩⟩
        case measure => simp [intOf]; omega
      ·
        rw [decide_eq_false (by omega)] at hkind
        obtain ⟨p, hp⟩ : ∃ p, n / 16 = p := ⟨_, rfl⟩
        obtain ⟨q, hq⟩ : ∃ q, n % 16 = q := ⟨_, rfl⟩
        have hp1 : p < 16 := by omega
        have hq1 : q < 16 := by omega
        have hB := Aside0.mk (show escB (UInt8.ofNat n) = [37, digU p, digU q] by unfold escB; rw [hkind, if_neg (by decide), if_neg (fun e => by have h9 := congrArg UInt8.toNat e; rw [show (UInt8.ofNat n).toNat = n from UInt8.toNat_ofNat_of_lt' hn2] at h9; have h8 : n = 32 := h9; omega), show (UInt8.ofNat n).toNat = n from UInt8.toNat_ofNat_of_lt' hn2, hp, hq])
        have hcat := Aside0.mk (show (⟨o.toArray⟩ : ByteArray) ++ ⟨#[37]⟩ ++ ⟨#[digU p]⟩ ++ ⟨#[digU q]⟩ = ⟨(o ++ [37, digU p, digU q]).toArray⟩ from bl_is (by simp))
        have r1 := wr_div n hn2
        rw [hp] at r1
        have r2 := wr_one p hp1
        have r3 : (n : Int).tmod 16 = (q : Int) := by rw [Int.tmod_eq_emod_of_nonneg (by omega)]; omega
        have r4 := wr_one q hq1
        have l2 := up_slice q hq1
        have l3 := up_slice p hp1
        clear hkind hp hq
        have e0_0 : decide (97 ≤ n) = true := decide_eq_true (by omega)
        have e0_1 : decide ((97 : Int) ≤ (n : Int)) = true := decide_eq_true (by omega)
        have e1_0 : decide (n ≤ 122) = false := decide_eq_false (by omega)
        have e1_1 : decide ((n : Int) ≤ (122 : Int)) = false := decide_eq_false (by omega)
        have e2_0 : decide (65 ≤ n) = true := decide_eq_true (by omega)
        have e2_1 : decide ((65 : Int) ≤ (n : Int)) = true := decide_eq_true (by omega)
        have e3_0 : decide (n ≤ 90) = false := decide_eq_false (by omega)
        have e3_1 : decide ((n : Int) ≤ (90 : Int)) = false := decide_eq_false (by omega)
        have e4_0 : decide (48 ≤ n) = true := decide_eq_true (by omega)
        have e4_1 : decide ((48 : Int) ≤ (n : Int)) = true := decide_eq_true (by omega)
        have e5_0 : decide (n ≤ 57) = false := decide_eq_false (by omega)
        have e5_1 : decide ((n : Int) ≤ (57 : Int)) = false := decide_eq_false (by omega)
        have q45 : ((n : Int) == 45) = false := beq_eq_false_iff_ne.2 (by omega)
        have q46 : ((n : Int) == 46) = false := beq_eq_false_iff_ne.2 (by omega)
        have q95 : ((n : Int) == 95) = false := beq_eq_false_iff_ne.2 (by omega)
        have q126 : ((n : Int) == 126) = false := beq_eq_false_iff_ne.2 (by omega)
        have q32 : ((n : Int) == 32) = false := beq_eq_false_iff_ne.2 (by omega)
        clear h h'
        go_upto_region 10 with fail
        go_region
        all_goals go_wp2
        all_goals go_roundw
        all_goals first
          | (simp [intOf]; omega)
          | exact ⟨k + 1, nd + 1, o ++ [37, digU p, digU q], by omega, by go_num, by rw [hcat.out], rfl, by simp; omega, ⟨by rw [hst.out, HC.out, hB.out, HO.out]⟩⟩
    · have hke : k = s.length := by omega
      have hO := HO.out
      rw [hke, List.take_length] at hO
      have HO' := Aside0.mk hO
      clear HO hO
      go_wp2
      go_ret
      exact ⟨by rw [← HO'.out]; rfl, nd, rfl⟩
def wicketmanref07_Escape.f (a0 : ByteArray) : Option ByteArray := if (bl a0).length < 1000000000 then some ⟨(escR (bl a0)).toArray⟩ else none
theorem wicketmanref07_Escape.calls (a0 r : ByteArray) (w : World) (h : wicketmanref07_Escape.f a0 = some r) :
    Calls Tryd.prog 27 #[.string a0] w fun e w' => e = .returned (.string r) ∧ Drawn0 w w' := by
  unfold wicketmanref07_Escape.f at h
  by_cases hl : (bl a0).length < 1000000000
  · rw [if_pos hl] at h
    cases h
    have := refEscape (bl a0) w hl
    rw [bl_mk] at this
    refine this.mono ?_
    rintro e w' ⟨rfl, n, rfl⟩
    exact ⟨rfl, Drawn0.step (Drawn0.refl w) n⟩
  · rw [if_neg hl] at h; cases h
end Go.Proofs.YtjbghpkdehikfaaDoor.Hand
