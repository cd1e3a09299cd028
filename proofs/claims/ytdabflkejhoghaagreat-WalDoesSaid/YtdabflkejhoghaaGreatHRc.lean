/- The reference: ref13.Sum, ref01.Get. -/
import Derived.Below
import Derived.Deep.Draws
import Derived.Deep.AppendLies
import Derived.Maps.AppendAt
import Derived.OwnWalk
import Derived.Laws.BytesArg
import Derived.Laws.MakeOwn
import Derived.Laws.OwnMore
import Derived.Deep.OwnRows
import Derived.Tactics
import Derived.Lib.ConvBytes
import Derived.Laws.Slices
import Derived.WalkKit
import Derived.KernelRfl
import Derived.RowKit3
import Derived.Deep.LoopGhost
import Derived.Deep.QuietTactic
import Derived.BigQuiet
import Derived.WideLaws
import Derived.Deep.DeepCutAuto
import Derived.Deep.CutBlock
import Derived.Deep.RegionHeld3
import Derived.Laws.Rows
import Derived.Lib.AppendStr
import Derived.ArgAppend
import Derived.Laws.IdiomCopy
import Derived.OrdersHeld
import Derived.Laws.BitsLemmas
import Derived.RowKit
import Derived.Outline
import Derived.Maps.Own
import Derived.Maps.OwnOps
import Derived.Maps.OwnSet
import Derived.Maps.Views
import Derived.Maps.RangeWalk
import Derived.Maps.Ext
import Derived.RangeFuncOwn
import Derived.OneCell
import Derived.Deep.DeepMust
import Derived.Lib.Hide
import Derived.StillTailTactics
import Derived.Laws.AppendOwnNone
import Derived.WalkMore
import Derived.Lib.SlBytesConst
import Derived.WalkLawsBesides
import Derived.Laws.BitsAllLaws
import Derived.Test.YtdabflkejhoghaaGreatHQg
namespace Go.Proofs.YtdabflkejhoghaaGreat.Hand
open Go Go.RowKit Go.Proofs.YtdabflkejhoghaaGreat.HW Go.Proofs.YtdabflkejhoghaaGreatW.PrintLast Go.Proofs.YtdabflkejhoghaaGreat.HW
attribute [local go_sem] max2_int min2_int max_two min_two
set_option linter.unusedVariables false
set_option linter.unusedSimpArgs false
theorem crc1_odd (q : Nat) (h : q < 4294967296) (ho : q % 2 = 1) : bits .xor .u32 ((q : Int) / 2) 3988292384 = ((crc1 q : Nat) : Int) := by
  have e1 : (q : Int) / 2 = ((q / 2 : Nat) : Int) := by omega
  have e2 := u32_xor_nat (q / 2) 3988292384 (by omega) (by omega)
  rw [e1]
  unfold crc1
  rw [ho, Nat.mul_one]
  exact e2
theorem crc1_even (q : Nat) (ho : q % 2 = 0) : (q : Int) / 2 = ((crc1 q : Nat) : Int) := by
  unfold crc1
  rw [ho, Nat.mul_zero, Nat.xor_zero]
  omega
set_option maxHeartbeats 1000000 in
set_option maxRecDepth 100000 in
/-- the reference's sum -/
theorem r13Sum {A : Nat → Prop} (v : Value) (b : List UInt8) (w : World) (h : BytesV w A v b) (hl : b.length ≤ 1000000) :
    Calls Tryz.prog 72 #[v] w fun e w' => e = .returned (.int .u32 ((sumN b : Nat) : Int)) ∧ w = w' := by
  obtain ⟨ao, cap, rfl, hc1, hc2, -⟩ := id h
  obtain ⟨m, hm⟩ : ∃ m, m = b.length := ⟨_, rfl⟩
  rw [← hm] at h hc1 hl ⊢
  have HB := Lib.hid h
  have HM := Lib.hid hm
  clear h hm
  go_enter Tryz.func72, Tryz.ntmps72
  go_wp2
  go_loop [3, 4] (fun n i => ∃ j : Nat, j ≤ m ∧ i = .int .i64 (j : Int) ∧ ∃ q : Nat, n = .int .u32 (q : Int) ∧ Hid (q = crcL 4294967295 (b.take j))) (fun _ i => m - (intOf i).toNat)
  case atStart => exact ⟨0, by omega, rfl, 4294967295, rfl, rfl⟩
  case round =>
    obtain ⟨j, hj, rfl, n, rfl, HN⟩ := hrel
    have hnl : n < 4294967296 := by rw [HN.out]; exact crcL_lt _ (by omega)
    by_cases hlt : j < m
    · have hjb : j < b.length := by rw [← HM.out]; exact hlt
      obtain ⟨x, rfl, hx⟩ := HB.out.at hjb
      obtain ⟨c, hc⟩ : ∃ c, c = (b[j]).toNat := ⟨_, rfl⟩
      rw [← hc] at hx
      have hc8 : c < 256 := by rw [hc]; exact UInt8.toNat_lt _
      have hxr := u32_xor_nat n c hnl (by omega)
      obtain ⟨y, hy⟩ : ∃ y, y = n ^^^ c := ⟨_, rfl⟩
      have hy2 : y < 4294967296 := by rw [hy]; exact Nat.xor_lt_two_pow (n := 32) hnl (by omega)
      rw [← hy] at hxr
      have HS : Hid (crcIt 8 y = crcL 4294967295 (b.take (j + 1))) := by rw [crcL_take _ b j hjb, ← HN.out, hy, hc]; exact rfl
      clear hy hc
      go_wp2
      go_loop [3, 5] (fun n i => ∃ k : Nat, k ≤ 8 ∧ i = .int .i64 (k : Int) ∧ ∃ q : Nat, n = .int .u32 (q : Int) ∧ Hid (q = crcIt k y)) (fun _ i => 8 - (intOf i).toNat)
      case atStart => exact ⟨0, by omega, rfl, y, rfl, rfl⟩
      case round =>
        obtain ⟨k, hk, rfl, q, rfl, HQ⟩ := hrel
        have hq : q < 4294967296 := by rw [HQ.out]; exact crcIt_lt k hy2
        by_cases hk8 : k < 8
        · have HK := Lib.hid (crcIt_succ k y)
          by_cases ho : q % 2 = 1
          · have o1 : decide ((q : Int) % 2 = 1) = true := decide_eq_true (by omega)
            have o2 : ((q : Int) % 2 == 1) = true := by simp; omega
            have HX := Lib.hid (crc1_odd q hq ho)
            clear hxr hx
            go_wp2
            go_round
            case rel => exact ⟨k + 1, by omega, by go_num, crc1 q, by rw [HX.out], by rw [HK.out, ← HQ.out]; exact rfl⟩
            case measure => simp [intOf]; omega
          · have o1 : decide ((q : Int) % 2 = 1) = false := decide_eq_false (by omega)
            have o2 : ((q : Int) % 2 == 1) = false := by simp; omega
            have HX := Lib.hid (crc1_even q (by omega))
            clear hxr hx
            go_wp2
            go_round
            case rel => exact ⟨k + 1, by omega, by go_num, crc1 q, by rw [HX.out], by rw [HK.out, ← HQ.out]; exact rfl⟩
            case measure => simp [intOf]; omega
        · obtain rfl : k = 8 := by omega
          clear hxr hx
          go_wp2
          go_round
          case rel => exact ⟨j + 1, by omega, by go_num, q, rfl, HQ.out.trans HS.out⟩
          case measure => simp [intOf]; omega
    · obtain rfl : j = m := by omega
      have hxr := u32_xor_nat n 4294967295 hnl (by omega)
      have HX := Lib.hid hxr
      clear hxr
      go_wp2
      go_ret
      refine ⟨?_, rfl⟩
      show Ending.returned (.int .u32 (bits .xor .u32 (n : Int) 4294967295)) = _
      have e : ((4294967295 : Nat) : Int) = 4294967295 := rfl
      rw [← e, HX.out]
      unfold sumN
      have h5 := HN.out
      rw [HM.out, List.take_length] at h5
      rw [← h5, Nat.xor_comm]
set_option maxRecDepth 100000 in
/-- the reference's Get -/
theorem r01Get {A : Nat → Prop} (v : Value) (b : List UInt8) (w : World) (h : BytesV w A v b) (hl : b.length ≤ 8) :
    Calls Tryz.prog 84 #[v] w fun e w' => e = .returned (.int .u64 ((getN b 0 : Nat) : Int)) ∧ w = w' := by
  obtain ⟨ao, cap, rfl, hc1, hc2, -⟩ := id h
  obtain ⟨m, hm⟩ : ∃ m, m = b.length := ⟨_, rfl⟩
  rw [← hm] at h hc1 hl ⊢
  have HB := Lib.hid h
  have HM := Lib.hid hm
  have e1 : IntKind.i64.wrap ((m : Int) - 8) = (m : Int) - 8 := IntWalk.i64_in _ (by omega)
  have e2 : ¬ ((0 : Int) < (m : Int) - 8) := by omega
  have e3 : decide ((0 : Int) < (m : Int) - 8) = false := decide_eq_false e2
  clear h hm
  go_enter Tryz.func84, Tryz.ntmps84
  go_wp2
  clear e1 e2 e3
  go_loop [3, 4] (fun n i => ∃ k : Nat, k ≤ m ∧ i = .int .i64 (k : Int) ∧ n = .int .u64 ((getN (b.take k) 0 : Nat) : Int)) (fun _ i => m - (intOf i).toNat)
  case atStart => exact ⟨0, by omega, rfl, rfl⟩
  case round =>
    obtain ⟨k, hk, rfl, rfl⟩ := hrel
    by_cases hlt : k < m
    · have hkb : k < b.length := by rw [← HM.out]; exact hlt
      obtain ⟨x, rfl, hx⟩ := HB.out.at hkb
      obtain ⟨c, hc⟩ : ∃ c, c = (b[k]).toNat := ⟨_, rfl⟩
      rw [← hc] at hx
      have hc8 : c < 256 := by rw [hc]; exact UInt8.toNat_lt _
      have HS := Lib.hid (getN_take b 0 k hkb)
      have HC := Lib.hid hc
      have hgl : getN (b.take k) 0 < 256 ^ 7 := Nat.lt_of_lt_of_le (getN_lt' (List.length_take_of_le (by omega))) (Nat.pow_le_pow_right (by omega) (by omega))
      obtain ⟨n, hn⟩ : ∃ n, n = getN (b.take k) 0 := ⟨_, rfl⟩
      rw [← hn] at hgl ⊢
      have HN := Lib.hid hn
      have hnw : IntKind.u64.wrap (256 * (n : Int)) = 256 * (n : Int) := by rw [IntKind.wrap_u64]; omega
      have hnw2 : IntKind.u64.wrap (256 * (n : Int) + (c : Int)) = 256 * (n : Int) + (c : Int) := by rw [IntKind.wrap_u64]; omega
      clear hc hn hgl
      go_wp2
      go_round
      case rel => 
        refine ⟨k + 1, by omega, by go_num, ?_⟩
        rw [HS.out, ← HN.out, ← HC.out]
        congr 1; omega
      case measure => simp [intOf]; omega
    · obtain rfl : k = m := by omega
      have HT : Hid (getN (b.take k) 0 = getN b 0) := by rw [HM.out, List.take_length]; exact rfl
      go_wp2
      go_ret
      rw [HT.out]
      exact ⟨rfl, rfl⟩
end Go.Proofs.YtdabflkejhoghaaGreat.Hand
