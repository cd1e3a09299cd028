/- num.Put by hand: what it returns, as a plain list. -/
import Derived.Test.YtclmjhpbhmbdaaaProg
import Derived.Below
import Derived.Deep.Draws
import Derived.Deep.AppendLies
import Derived.Maps.AppendAt
import Derived.OwnWalk
import Derived.Laws.BytesArg
import Derived.Laws.MakeOwn
import Derived.Laws.OwnMore
import Derived.Deep.OwnRows
import Derived.Tactics
import Derived.Lib.ConvBytes
import Derived.Laws.Slices
import Derived.WalkKit
import Derived.KernelRfl
import Derived.RowKit3
import Derived.Deep.LoopGhost
import Derived.Deep.QuietTactic
import Derived.BigQuiet
import Derived.WideLaws
import Derived.Deep.DeepCutAuto
import Derived.Deep.CutBlock
import Derived.Deep.RegionHeld3
import Derived.Laws.Rows
import Derived.Lib.AppendStr
import Derived.ArgAppend
import Derived.Laws.IdiomCopy
import Derived.OrdersHeld
import Derived.Laws.BitsLemmas
import Derived.RowKit
import Derived.Test.YtclmjhpbhmbdaaaWWords
import Derived.Test.YtclmjhpbhmbdaaaWLast
import Derived.Test.YtclmjhpbhmbdaaaWTab
import Derived.Test.YtclmjhpbhmbdaaaWFour
import Derived.Test.YtclmjhpbhmbdaaaWQPut
import Derived.Test.YtclmjhpbhmbdaaaWApart
import Derived.Test.YtclmjhpbhmbdaaaWArr
import Derived.Test.YtclmjhpbhmbdaaaWZeros
import Derived.Test.YtclmjhpbhmbdaaaWFoot
import Derived.Test.YtclmjhpbhmbdaaaWKept
import Derived.Test.YtclmjhpbhmbdaaaWShare
import Derived.Test.YtclmjhpbhmbdaaaWN
import Derived.Test.YtclmjhpbhmbdaaaWFootNe
import Derived.Test.YtclmjhpbhmbdaaaWAt
import Derived.Test.YtclmjhpbhmbdaaaWEqStruct
import Derived.Test.YtclmjhpbhmbdaaaWRepsOne
import Derived.Test.YtclmjhpbhmbdaaaWInv
import Derived.Test.YtclmjhpbhmbdaaaWInvWords
import Derived.Test.YtclmjhpbhmbdaaaWGuard
import Derived.Test.YtclmjhpbhmbdaaaWNEv
import Derived.Test.YtclmjhpbhmbdaaaWMore
import Derived.Outline
namespace Go.Proofs.Ytclmjhpbhmbdaaa.Hand
open Go.RowKit Go.Proofs.YtclmjhpbhmbdaaaW.PrintWords Go.Proofs.YtclmjhpbhmbdaaaW.PrintLast Go.Proofs.YtclmjhpbhmbdaaaW.PrintMore
attribute [local go_sem] max2_int min2_int max_two min_two max_three min_three max_four min_four

theorem info5 : (Try.prog.info? 5).map (fun i => (i.zero, i.size, i.bytes)) = some (some (.int .u8 0), 1, 1) := by kernel_rfl

/-- the last k bytes of n, the greatest first -/
def putL (n : Int) : Nat → List Int
  | 0 => []
  | k + 1 => (n / 256 ^ k % 256) :: putL n k
theorem putL_length (n : Int) (k : Nat) : (putL n k).length = k := by
  induction k with
  | zero => rfl
  | succ k ih => simp [putL, ih]
def putZ (n : Int) (m k : Nat) : List Int := List.replicate (m - k) 0 ++ putL n k
theorem putZ_length (n : Int) (m k : Nat) (h : k ≤ m) : (putZ n m k).length = m := by
  simp [putZ, putL_length]; omega
theorem putZ_zero (n : Int) (m : Nat) : putZ n m 0 = List.replicate m 0 := by simp [putZ, putL]
theorem putZ_all (n : Int) (m : Nat) : putZ n m m = putL n m := by simp [putZ]
theorem putZ_set (n : Int) (m k : Nat) (h : k < m) : (putZ n m k).set (m - 1 - k) (n / 256 ^ k % 256) = putZ n m (k + 1) := by
  unfold putZ
  have e : m - k = (m - (k + 1)) + 1 := by omega
  rw [e, List.replicate_succ', List.append_assoc, List.set_append_right _ _ (by simp; omega)]
  have e2 : m - 1 - k - (List.replicate (m - (k + 1)) (0 : Int)).length = 0 := by simp; omega
  rw [e2]; rfl

theorem shr_pow (n : Int) (k : Nat) : n / 2 ^ (8 * k) = n / 256 ^ k := by
  have e : (2 : Int) ^ (8 * k) = 256 ^ k := by rw [Int.pow_mul]; rfl
  rw [e]

def num_Put.f (a0 a1 : Int) : Option (List Int) := some (putL a0 (mx 0 (mn a1 8)).toNat)

theorem put_step (n : Int) (m k : Nat) (h : k < m) (ys : List Int) (e : ys = putZ n m k) : ys.set (m - 1 - k) (n / 2 ^ (8 * k) % 256) = putZ n m (k + 1) := by
  rw [e, shr_pow]; exact putZ_set n m k h

set_option maxHeartbeats 800000 in
set_option maxRecDepth 100000 in
theorem num_Put.calls (a0 : Int) (a1 : Int) (r : List Int) (w : World) (h : num_Put.f a0 a1 = some r) :
    Calls Try.prog 31 #[.int .u64 a0, .int .i64 a1] w fun e w' => ∃ v0_ : Value, e = .returned (v0_) ∧ Kd.R (Kd.int .u8) 5 w' w.heap.size (fun _ => True) v0_ r ∧ Below w.heap.size w w' := by
  obtain rfl := Option.some.inj h
  clear h
  obtain ⟨j1, hj1⟩ : ∃ m : Int, mn a1 8 = m := ⟨_, rfl⟩
  obtain ⟨m, hm⟩ : ∃ m : Nat, mx 0 j1 = m := ⟨(mx 0 j1).toNat, by unfold mx; omega⟩
  have hm8 : m ≤ 8 := by unfold mx at hm; unfold mn at hj1; omega
  rw [hj1, hm, Int.toNat_natCast]
  have hj : (if 8 < a1 then 8 else a1) = j1 := hj1
  have hk : (if 0 < j1 then j1 else 0) = (m : Int) := hm
  clear hm hj1
  have d1 : decide (0 ≤ (m : Int)) = true := decide_eq_true (by omega)
  have d2 : decide ((m : Int).toNat ≤ 281474976710656) = true := decide_eq_true (by omega)
  go_enter Try.func31, Try.ntmps31
  go_wp2_with (first | ((with_reducible refine gate_dst (N := 10) rfl ?_); refine Kd.R_make (Kd.int .u8) _ 5 rfl (N := 10) rfl 24 _ _ rfl (m : Int) rfl rfl Try.underlying24 (.int .u8 0) 1 info5 rfl (by decide) (by omega) 0 (ok := fun _ => True) (okp := fun _ => True) rfl (fun _ hk => hk) trivial (by omega) (by omega) (Below.refl _ _) (Nat.le_refl _) ?_; intro v102 w7 ho8 hb hg_ hnew_; clear hg_ hnew_; rw [Int.toNat_natCast] at ho8; have HO := Aside0.mk (Kd.R_lower ho8 (Nat.le_refl _)); have HB := Aside0.mk hb; clear hb ho8; obtain ⟨Ao9, co9, eo9⟩ := Kd.R_slice HO.out; subst eo9))
  go_loopw [13] (fun v wr => ∃ k : Nat, k ≤ m ∧ v = .int .i64 k ∧ Aside0 (Kd.R (Kd.int .u8) 5 wr w.heap.size (fun _ => True) (.slice Ao9 m co9) (putZ a0 m k)) ∧ Aside0 (Below w.heap.size w wr)) (fun v _ => m - (intOf v).toNat)
  case atStart => exact ⟨0, Nat.zero_le _, rfl, by rw [putZ_zero]; exact ⟨by simpa using HO.out⟩, HB⟩
  case round =>
    clear HO HB
    obtain ⟨k, hk, rfl, HO, HB⟩ := hrel
    by_cases hlt : k < m
    · have hl := putZ_length a0 m k hk
      have hh : (m : Int) - 1 - k = (m - 1 - k : Nat) := by omega
      have e1 : IntKind.i64.wrap ((m : Int) - 1 - k) = (m - 1 - k : Nat) := by rw [hh]; exact IntWalk.i64_in _ (by omega)
      have d3 : decide ((k : Int) < m) = true := decide_eq_true (by omega)
      have d4 : decide (0 ≤ 8 * (k : Int)) = true := decide_eq_true (by omega)
      obtain ⟨i, hi⟩ : ∃ i : Nat, m - 1 - k = i := ⟨_, rfl⟩
      rw [hi] at e1
      have q0 : 0 ≤ (i : Int) := by omega
      have q1 : (i : Int) < ((putZ a0 m k).length : Int) := by rw [hl]; omega
      have HO1 : Kd.R (Kd.int .u8) 5 wr w.heap.size (fun _ => True) (.slice Ao9 (putZ a0 m k).length co9) (putZ a0 m k) := by rw [hl]; exact HO.out
      obtain ⟨go, co, eo, gb, gl, cl, HG⟩ := Kd.R_form HO1 (by omega)
      injection eo with ea en ec
      subst ea ec
      clear en HG cl gl
      have GB := Aside0.mk gb
      clear gb
      obtain ⟨hx, hf⟩ := Kd.R_celln 0 HO1 (i : Int) q0 q1
      have hp := Kd.R_putg HO1 (i : Int) (a0 / 2 ^ (8 * k) % 256)
      rw [Int.toNat_natCast] at hx hf hp
      have HP := Aside0.mk hp
      have HZ := Aside0.mk (put_step a0 m k hlt _ rfl)
      rw [hi] at HZ
      have HL := Aside0.mk hl
      have HI := Aside0.mk hi
      replace q0 := eq_true q0
      have q2 : ((i : Int) < (m : Int)) = True := eq_true (by omega)
      clear HO1 hl hi q1 hh HO hp
      go_wp2
      go_roundw
      case rel => exact ⟨k + 1, by omega, by go_num, ⟨by have h := HP.out.1; rw [HL.out, HZ.out] at h; exact h⟩, ⟨below_set HB.out GB.out⟩⟩
      case measure => simp [intOf]; omega
    · have d3 : decide ((k : Int) < m) = false := decide_eq_false (by omega)
      obtain rfl : k = m := by omega
      rw [putZ_all] at HO
      go_wp2
      go_ret
      exact ⟨_, rfl, HO.out, HB.out⟩
end Go.Proofs.Ytclmjhpbhmbdaaa.Hand
