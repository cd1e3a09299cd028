/- fill: the reader's steps, a digit's value, and which bytes stand as they are. -/
import Derived.Test.YtjbghpkdehikfaaDoorProg
import Derived.Below
import Derived.Deep.Draws
import Derived.Deep.AppendLies
import Derived.Maps.AppendAt
import Derived.OwnWalk
import Derived.Laws.BytesArg
import Derived.Laws.MakeOwn
import Derived.Laws.OwnMore
import Derived.Deep.OwnRows
import Derived.Tactics
import Derived.Lib.ConvBytes
import Derived.Laws.Slices
import Derived.WalkKit
import Derived.KernelRfl
import Derived.RowKit3
import Derived.Deep.LoopGhost
import Derived.Deep.QuietTactic
import Derived.BigQuiet
import Derived.WideLaws
import Derived.Deep.DeepCutAuto
import Derived.Deep.CutBlock
import Derived.Deep.RegionHeld3
import Derived.Laws.Rows
import Derived.Lib.AppendStr
import Derived.ArgAppend
import Derived.Laws.IdiomCopy
import Derived.OrdersHeld
import Derived.Laws.BitsLemmas
import Derived.RowKit
import Derived.Test.YtjbghpkdehikfaaDoorWWords
import Derived.Test.YtjbghpkdehikfaaDoorWLast
import Derived.Test.YtjbghpkdehikfaaDoorWTab
import Derived.Test.YtjbghpkdehikfaaDoorWFour
import Derived.Test.YtjbghpkdehikfaaDoorWQPut
import Derived.Test.YtjbghpkdehikfaaDoorWApart
import Derived.Test.YtjbghpkdehikfaaDoorWArr
import Derived.Test.YtjbghpkdehikfaaDoorWZeros
import Derived.Test.YtjbghpkdehikfaaDoorWFoot
import Derived.Test.YtjbghpkdehikfaaDoorWKept
import Derived.Test.YtjbghpkdehikfaaDoorWShare
import Derived.Test.YtjbghpkdehikfaaDoorWN
import Derived.Test.YtjbghpkdehikfaaDoorWFootNe
import Derived.Test.YtjbghpkdehikfaaDoorWAt
import Derived.Test.YtjbghpkdehikfaaDoorWEqStruct
import Derived.Test.YtjbghpkdehikfaaDoorWRepsOne
import Derived.Test.YtjbghpkdehikfaaDoorWInv
import Derived.Test.YtjbghpkdehikfaaDoorWInvWords
import Derived.Test.YtjbghpkdehikfaaDoorWGuard
import Derived.Test.YtjbghpkdehikfaaDoorWNEv
import Derived.Test.YtjbghpkdehikfaaDoorWMore
import Derived.Outline
import Derived.Test.YtjbghpkdehikfaaDoorHBuf
import Derived.Test.YtjbghpkdehikfaaDoorHShelf
namespace Go.Proofs.YtjbghpkdehikfaaDoor.Hand
open Go.RowKit
set_option linter.unusedVariables false
theorem str_empty (s : ByteArray) (h : s.size = 0) : s = ⟨#[]⟩ := by
  apply ByteArray.ext; apply Array.eq_empty_of_size_eq_zero; exact h

/-- the reader's struct -/
def Rd (rb : Nat) (l : List UInt8) (ok : Bool) (w : World) : Prop := w.heap[rb]? = some (.cells #[.string ⟨l.toArray⟩, .bool ok] 62 (0, 0))

def nxt : List UInt8 → Bool → UInt8 × List UInt8 × Bool
  | [], _ => (0, [], false)
  | c :: l, ok => (c, l, ok)

set_option maxHeartbeats 800000 in
set_option maxRecDepth 100000 in
theorem next (rb : Nat) (l : List UInt8) (ok : Bool) (w : World) (h : Rd rb l ok w) :
    Calls Tryd.prog 31 #[.pointer (some ⟨rb, 0, none⟩)] w fun e w' => e = .returned (.int .u8 (nxt l ok).1.toNat) ∧ (Rd rb (nxt l ok).2.1 (nxt l ok).2.2 w' ∧ Only rb w w') := by
  have c0 : w.cell? ⟨rb, 0, none⟩ = some (.string ⟨l.toArray⟩) := by rw [Lib.cell_of_heap h]; rfl
  have c1 : w.cell? ⟨rb, 1, none⟩ = some (.bool ok) := by rw [Lib.cell_of_heap h]; rfl
  have f0 : w.frozen? ⟨rb, 0, none⟩ = false := Lib.frozen_of_heap h 0
  have f1 : w.frozen? ⟨rb, 1, none⟩ = false := Lib.frozen_of_heap h 1
  cases l with
  | nil =>
    go_enter Tryd.func31, Tryd.ntmps31
    go_wp2
    go_ret
    refine ⟨rfl, ?_, Only.setCell _ _ _ _⟩
    simp [Rd, nxt, World.setCell, Array.getElem?_modify, show w.heap[rb]? = _ from h]
  | cons c l =>
    go_enter Tryd.func31, Tryd.ntmps31
    go_wp2
    go_ret
    refine ⟨?_, ?_, Only.setCell _ _ _ _⟩
    · rfl
    simp [Rd, nxt, World.setCell, Array.getElem?_modify, show w.heap[rb]? = _ from h]
    apply ByteArray.ext; simp


def halfF (c : UInt8) : Int :=
  if 48 ≤ c.toNat ∧ c.toNat ≤ 57 then c.toNat - 48 else if 65 ≤ c.toNat ∧ c.toNat ≤ 70 then c.toNat - 55 else if 97 ≤ c.toNat ∧ c.toNat ≤ 102 then c.toNat - 87 else -1
theorem u8_all {p : UInt8 → Prop} (h : ∀ n : Nat, n < 256 → p (UInt8.ofNat n)) (c : UInt8) : p c := by
  have := h c.toNat c.toNat_lt
  rwa [UInt8.ofNat_toNat] at this
set_option maxRecDepth 100000 in
theorem half_low : ∀ n : Nat, n < 256 → 97 ≤ n → n ≤ 102 → Lib.indexByte [48, 49, 50, 51, 52, 53, 54, 55, 56, 57, 65, 66, 67, 68, 69, 70] ((n : Int) - 32).toNat.toUInt8 = halfF (UInt8.ofNat n) := by decide
set_option maxRecDepth 100000 in
theorem half_else : ∀ n : Nat, n < 256 → ¬ (97 ≤ n ∧ n ≤ 102) → Lib.indexByte [48, 49, 50, 51, 52, 53, 54, 55, 56, 57, 65, 66, 67, 68, 69, 70] ((n : Int)).toNat.toUInt8 = halfF (UInt8.ofNat n) := by decide
set_option maxHeartbeats 800000 in
set_option maxRecDepth 100000 in
theorem half (c : UInt8) (w : World) : Calls Tryd.prog 47 #[.int .u8 c.toNat] w fun e w' => e = .returned (.int .i64 (halfF c)) ∧ w' = w := by
  obtain ⟨n, hn, rfl⟩ : ∃ n, n < 256 ∧ UInt8.ofNat n = c := ⟨c.toNat, c.toNat_lt, UInt8.ofNat_toNat⟩
  rw [show (UInt8.ofNat n).toNat = n from UInt8.toNat_ofNat_of_lt' hn]
  rcases (show n < 97 ∨ (97 ≤ n ∧ n ≤ 102) ∨ 102 < n by omega) with h | h | h
  ·
    have e0_0 : decide (97 ≤ n) = false := decide_eq_false (by omega)
    have e0_1 : decide ((97 : Int) ≤ (n : Int)) = false := decide_eq_false (by omega)
    have e1_0 : decide (n ≤ 102) = true := decide_eq_true (by omega)
    have e1_1 : decide ((n : Int) ≤ (102 : Int)) = true := decide_eq_true (by omega)
    have hh := half_else n hn (by omega)
    go_enter Tryd.func47, Tryd.ntmps47
    go_wp2_with (go_at_call 50; ((with_reducible refine (Tryd.strings_IndexByte _ _ _).mono ?_); rintro e w1 ⟨rfl, rfl⟩))
    go_ret
    exact ⟨by rw [← hh] <;> rfl, rfl⟩
  ·
    obtain ⟨h, h'⟩ := h
    have e0_0 : decide (97 ≤ n) = true := decide_eq_true (by omega)
    have e0_1 : decide ((97 : Int) ≤ (n : Int)) = true := decide_eq_true (by omega)
    have e1_0 : decide (n ≤ 102) = true := decide_eq_true (by omega)
    have e1_1 : decide ((n : Int) ≤ (102 : Int)) = true := decide_eq_true (by omega)
    have e5 : (0 : Int) ≤ (n : Int) - 32 := by omega
    have hh := half_low n hn h h'
    go_enter Tryd.func47, Tryd.ntmps47
    go_wp2_with (go_at_call 50; ((with_reducible refine (Tryd.strings_IndexByte _ _ _).mono ?_); rintro e w1 ⟨rfl, rfl⟩))
    go_ret
    exact ⟨by rw [← hh] <;> rfl, rfl⟩
  ·
    have e0_0 : decide (97 ≤ n) = true := decide_eq_true (by omega)
    have e0_1 : decide ((97 : Int) ≤ (n : Int)) = true := decide_eq_true (by omega)
    have e1_0 : decide (n ≤ 102) = false := decide_eq_false (by omega)
    have e1_1 : decide ((n : Int) ≤ (102 : Int)) = false := decide_eq_false (by omega)
    have hh := half_else n hn (by omega)
    go_enter Tryd.func47, Tryd.ntmps47
    go_wp2_with (go_at_call 50; ((with_reducible refine (Tryd.strings_IndexByte _ _ _).mono ?_); rintro e w1 ⟨rfl, rfl⟩))
    go_ret
    exact ⟨by rw [← hh] <;> rfl, rfl⟩

def plainF (c : UInt8) : Bool :=
  (decide (97 ≤ c.toNat) && decide (c.toNat ≤ 122)) || (decide (65 ≤ c.toNat) && decide (c.toNat ≤ 90)) || (decide (48 ≤ c.toNat) && decide (c.toNat ≤ 57)) || c.toNat == 45 || c.toNat == 46 || c.toNat == 95 || c.toNat == 126
set_option maxRecDepth 100000 in
theorem plain_yes : ∀ n : Nat, n < 256 → ((97 ≤ n ∧ n ≤ 122) ∨ (65 ≤ n ∧ n ≤ 90) ∨ (48 ≤ n ∧ n ≤ 57)) → plainF (UInt8.ofNat n) = true := by decide
set_option maxRecDepth 100000 in
theorem plain_else : ∀ n : Nat, n < 256 → n ≠ 0 → ¬ ((97 ≤ n ∧ n ≤ 122) ∨ (65 ≤ n ∧ n ≤ 90) ∨ (48 ≤ n ∧ n ≤ 57)) → (((n : Int) != 0) && decide (0 ≤ Lib.indexByte [45, 46, 95, 126] (UInt8.ofNat n))) = plainF (UInt8.ofNat n) := by decide
set_option maxHeartbeats 1600000 in
set_option maxRecDepth 100000 in
theorem plain (c : UInt8) (w : World) : Calls Tryd.prog 37 #[.int .u8 c.toNat] w fun e w' => e = .returned (.bool (plainF c)) ∧ w' = w := by
  obtain ⟨n, hn, rfl⟩ : ∃ n, n < 256 ∧ UInt8.ofNat n = c := ⟨c.toNat, c.toNat_lt, UInt8.ofNat_toNat⟩
  rw [show (UInt8.ofNat n).toNat = n from UInt8.toNat_ofNat_of_lt' hn]
  rcases (show (0 ≤ n ∧ n ≤ 0) ∨ (1 ≤ n ∧ n ≤ 47) ∨ (48 ≤ n ∧ n ≤ 57) ∨ (58 ≤ n ∧ n ≤ 64) ∨ (65 ≤ n ∧ n ≤ 90) ∨ (91 ≤ n ∧ n ≤ 96) ∨ (97 ≤ n ∧ n ≤ 122) ∨ (123 ≤ n ∧ n ≤ 255) by omega) with ⟨h, h'⟩ | ⟨h, h'⟩ | ⟨h, h'⟩ | ⟨h, h'⟩ | ⟨h, h'⟩ | ⟨h, h'⟩ | ⟨h, h'⟩ | ⟨h, h'⟩
  ·
    obtain rfl : n = 0 := by omega
    have hh : plainF (UInt8.ofNat 0) = false := by decide
    go_enter Tryd.func37, Tryd.ntmps37
    go_wp2_with (go_at_call 50; ((with_reducible refine (Tryd.strings_IndexByte _ _ _).mono ?_); rintro e w1 ⟨rfl, rfl⟩))
    go_ret
    exact ⟨by rw [hh] <;> rfl, rfl⟩
  ·
    have e0_0 : decide (97 ≤ n) = false := decide_eq_false (by omega)
    have e0_1 : decide ((97 : Int) ≤ (n : Int)) = false := decide_eq_false (by omega)
    have e1_0 : decide (n ≤ 122) = true := decide_eq_true (by omega)
    have e1_1 : decide ((n : Int) ≤ (122 : Int)) = true := decide_eq_true (by omega)
    have e2_0 : decide (65 ≤ n) = false := decide_eq_false (by omega)
    have e2_1 : decide ((65 : Int) ≤ (n : Int)) = false := decide_eq_false (by omega)
    have e3_0 : decide (n ≤ 90) = true := decide_eq_true (by omega)
    have e3_1 : decide ((n : Int) ≤ (90 : Int)) = true := decide_eq_true (by omega)
    have e4_0 : decide (48 ≤ n) = false := decide_eq_false (by omega)
    have e4_1 : decide ((48 : Int) ≤ (n : Int)) = false := decide_eq_false (by omega)
    have e5_0 : decide (n ≤ 57) = true := decide_eq_true (by omega)
    have e5_1 : decide ((n : Int) ≤ (57 : Int)) = true := decide_eq_true (by omega)
    have z1 : (n == 0) = false := beq_eq_false_iff_ne.2 (by omega)
    have z2 : ((n : Int) == 0) = false := beq_eq_false_iff_ne.2 (by omega)
    have z3 : decide (n = 0) = false := decide_eq_false (by omega)
    have z4 : decide ((n : Int) = 0) = false := decide_eq_false (by omega)
    have hh := plain_else n hn (by omega) (by omega)
    go_enter Tryd.func37, Tryd.ntmps37
    go_wp2_with (go_at_call 50; ((with_reducible refine (Tryd.strings_IndexByte _ _ _).mono ?_); rintro e w1 ⟨rfl, rfl⟩))
    go_ret
    exact ⟨rfl, rfl⟩
  ·
    have e0_0 : decide (97 ≤ n) = false := decide_eq_false (by omega)
    have e0_1 : decide ((97 : Int) ≤ (n : Int)) = false := decide_eq_false (by omega)
    have e1_0 : decide (n ≤ 122) = true := decide_eq_true (by omega)
    have e1_1 : decide ((n : Int) ≤ (122 : Int)) = true := decide_eq_true (by omega)
    have e2_0 : decide (65 ≤ n) = false := decide_eq_false (by omega)
    have e2_1 : decide ((65 : Int) ≤ (n : Int)) = false := decide_eq_false (by omega)
    have e3_0 : decide (n ≤ 90) = true := decide_eq_true (by omega)
    have e3_1 : decide ((n : Int) ≤ (90 : Int)) = true := decide_eq_true (by omega)
    have e4_0 : decide (48 ≤ n) = true := decide_eq_true (by omega)
    have e4_1 : decide ((48 : Int) ≤ (n : Int)) = true := decide_eq_true (by omega)
    have e5_0 : decide (n ≤ 57) = true := decide_eq_true (by omega)
    have e5_1 : decide ((n : Int) ≤ (57 : Int)) = true := decide_eq_true (by omega)
    have z1 : (n == 0) = false := beq_eq_false_iff_ne.2 (by omega)
    have z2 : ((n : Int) == 0) = false := beq_eq_false_iff_ne.2 (by omega)
    have z3 : decide (n = 0) = false := decide_eq_false (by omega)
    have z4 : decide ((n : Int) = 0) = false := decide_eq_false (by omega)
    have hh := plain_yes n hn (by omega)
    go_enter Tryd.func37, Tryd.ntmps37
    go_wp2_with (go_at_call 50; ((with_reducible refine (Tryd.strings_IndexByte _ _ _).mono ?_); rintro e w1 ⟨rfl, rfl⟩))
    go_ret
    exact ⟨by rw [hh] <;> rfl, rfl⟩
  ·
    have e0_0 : decide (97 ≤ n) = false := decide_eq_false (by omega)
    have e0_1 : decide ((97 : Int) ≤ (n : Int)) = false := decide_eq_false (by omega)
    have e1_0 : decide (n ≤ 122) = true := decide_eq_true (by omega)
    have e1_1 : decide ((n : Int) ≤ (122 : Int)) = true := decide_eq_true (by omega)
    have e2_0 : decide (65 ≤ n) = false := decide_eq_false (by omega)
    have e2_1 : decide ((65 : Int) ≤ (n : Int)) = false := decide_eq_false (by omega)
    have e3_0 : decide (n ≤ 90) = true := decide_eq_true (by omega)
    have e3_1 : decide ((n : Int) ≤ (90 : Int)) = true := decide_eq_true (by omega)
    have e4_0 : decide (48 ≤ n) = true := decide_eq_true (by omega)
    have e4_1 : decide ((48 : Int) ≤ (n : Int)) = true := decide_eq_true (by omega)
    have e5_0 : decide (n ≤ 57) = false := decide_eq_false (by omega)
    have e5_1 : decide ((n : Int) ≤ (57 : Int)) = false := decide_eq_false (by omega)
    have z1 : (n == 0) = false := beq_eq_false_iff_ne.2 (by omega)
    have z2 : ((n : Int) == 0) = false := beq_eq_false_iff_ne.2 (by omega)
    have z3 : decide (n = 0) = false := decide_eq_false (by omega)
    have z4 : decide ((n : Int) = 0) = false := decide_eq_false (by omega)
    have hh := plain_else n hn (by omega) (by omega)
    go_enter Tryd.func37, Tryd.ntmps37
    go_wp2_with (go_at_call 50; ((with_reducible refine (Tryd.strings_IndexByte _ _ _).mono ?_); rintro e w1 ⟨rfl, rfl⟩))
    go_ret
    exact ⟨rfl, rfl⟩
  ·
    have e0_0 : decide (97 ≤ n) = false := decide_eq_false (by omega)
    have e0_1 : decide ((97 : Int) ≤ (n : Int)) = false := decide_eq_false (by omega)
    have e1_0 : decide (n ≤ 122) = true := decide_eq_true (by omega)
    have e1_1 : decide ((n : Int) ≤ (122 : Int)) = true := decide_eq_true (by omega)
    have e2_0 : decide (65 ≤ n) = true := decide_eq_true (by omega)
    have e2_1 : decide ((65 : Int) ≤ (n : Int)) = true := decide_eq_true (by omega)
    have e3_0 : decide (n ≤ 90) = true := decide_eq_true (by omega)
    have e3_1 : decide ((n : Int) ≤ (90 : Int)) = true := decide_eq_true (by omega)
    have e4_0 : decide (48 ≤ n) = true := decide_eq_true (by omega)
    have e4_1 : decide ((48 : Int) ≤ (n : Int)) = true := decide_eq_true (by omega)
    have e5_0 : decide (n ≤ 57) = false := decide_eq_false (by omega)
    have e5_1 : decide ((n : Int) ≤ (57 : Int)) = false := decide_eq_false (by omega)
    have z1 : (n == 0) = false := beq_eq_false_iff_ne.2 (by omega)
    have z2 : ((n : Int) == 0) = false := beq_eq_false_iff_ne.2 (by omega)
    have z3 : decide (n = 0) = false := decide_eq_false (by omega)
    have z4 : decide ((n : Int) = 0) = false := decide_eq_false (by omega)
    have hh := plain_yes n hn (by omega)
    go_enter Tryd.func37, Tryd.ntmps37
    go_wp2_with (go_at_call 50; ((with_reducible refine (Tryd.strings_IndexByte _ _ _).mono ?_); rintro e w1 ⟨rfl, rfl⟩))
    go_ret
    exact ⟨by rw [hh] <;> rfl, rfl⟩
  ·
    have e0_0 : decide (97 ≤ n) = false := decide_eq_false (by omega)
    have e0_1 : decide ((97 : Int) ≤ (n : Int)) = false := decide_eq_false (by omega)
    have e1_0 : decide (n ≤ 122) = true := decide_eq_true (by omega)
    have e1_1 : decide ((n : Int) ≤ (122 : Int)) = true := decide_eq_true (by omega)
    have e2_0 : decide (65 ≤ n) = true := decide_eq_true (by omega)
    have e2_1 : decide ((65 : Int) ≤ (n : Int)) = true := decide_eq_true (by omega)
    have e3_0 : decide (n ≤ 90) = false := decide_eq_false (by omega)
    have e3_1 : decide ((n : Int) ≤ (90 : Int)) = false := decide_eq_false (by omega)
    have e4_0 : decide (48 ≤ n) = true := decide_eq_true (by omega)
    have e4_1 : decide ((48 : Int) ≤ (n : Int)) = true := decide_eq_true (by omega)
    have e5_0 : decide (n ≤ 57) = false := decide_eq_false (by omega)
    have e5_1 : decide ((n : Int) ≤ (57 : Int)) = false := decide_eq_false (by omega)
    have z1 : (n == 0) = false := beq_eq_false_iff_ne.2 (by omega)
    have z2 : ((n : Int) == 0) = false := beq_eq_false_iff_ne.2 (by omega)
    have z3 : decide (n = 0) = false := decide_eq_false (by omega)
    have z4 : decide ((n : Int) = 0) = false := decide_eq_false (by omega)
    have hh := plain_else n hn (by omega) (by omega)
    go_enter Tryd.func37, Tryd.ntmps37
    go_wp2_with (go_at_call 50; ((with_reducible refine (Tryd.strings_IndexByte _ _ _).mono ?_); rintro e w1 ⟨rfl, rfl⟩))
    go_ret
    exact ⟨rfl, rfl⟩
  ·
    have e0_0 : decide (97 ≤ n) = true := decide_eq_true (by omega)
    have e0_1 : decide ((97 : Int) ≤ (n : Int)) = true := decide_eq_true (by omega)
    have e1_0 : decide (n ≤ 122) = true := decide_eq_true (by omega)
    have e1_1 : decide ((n : Int) ≤ (122 : Int)) = true := decide_eq_true (by omega)
    have e2_0 : decide (65 ≤ n) = true := decide_eq_true (by omega)
    have e2_1 : decide ((65 : Int) ≤ (n : Int)) = true := decide_eq_true (by omega)
    have e3_0 : decide (n ≤ 90) = false := decide_eq_false (by omega)
    have e3_1 : decide ((n : Int) ≤ (90 : Int)) = false := decide_eq_false (by omega)
    have e4_0 : decide (48 ≤ n) = true := decide_eq_true (by omega)
    have e4_1 : decide ((48 : Int) ≤ (n : Int)) = true := decide_eq_true (by omega)
    have e5_0 : decide (n ≤ 57) = false := decide_eq_false (by omega)
    have e5_1 : decide ((n : Int) ≤ (57 : Int)) = false := decide_eq_false (by omega)
    have z1 : (n == 0) = false := beq_eq_false_iff_ne.2 (by omega)
    have z2 : ((n : Int) == 0) = false := beq_eq_false_iff_ne.2 (by omega)
    have z3 : decide (n = 0) = false := decide_eq_false (by omega)
    have z4 : decide ((n : Int) = 0) = false := decide_eq_false (by omega)
    have hh := plain_yes n hn (by omega)
    go_enter Tryd.func37, Tryd.ntmps37
    go_wp2_with (go_at_call 50; ((with_reducible refine (Tryd.strings_IndexByte _ _ _).mono ?_); rintro e w1 ⟨rfl, rfl⟩))
    go_ret
    exact ⟨by rw [hh] <;> rfl, rfl⟩
  ·
    have e0_0 : decide (97 ≤ n) = true := decide_eq_true (by omega)
    have e0_1 : decide ((97 : Int) ≤ (n : Int)) = true := decide_eq_true (by omega)
    have e1_0 : decide (n ≤ 122) = false := decide_eq_false (by omega)
    have e1_1 : decide ((n : Int) ≤ (122 : Int)) = false := decide_eq_false (by omega)
    have e2_0 : decide (65 ≤ n) = true := decide_eq_true (by omega)
    have e2_1 : decide ((65 : Int) ≤ (n : Int)) = true := decide_eq_true (by omega)
    have e3_0 : decide (n ≤ 90) = false := decide_eq_false (by omega)
    have e3_1 : decide ((n : Int) ≤ (90 : Int)) = false := decide_eq_false (by omega)
    have e4_0 : decide (48 ≤ n) = true := decide_eq_true (by omega)
    have e4_1 : decide ((48 : Int) ≤ (n : Int)) = true := decide_eq_true (by omega)
    have e5_0 : decide (n ≤ 57) = false := decide_eq_false (by omega)
    have e5_1 : decide ((n : Int) ≤ (57 : Int)) = false := decide_eq_false (by omega)
    have z1 : (n == 0) = false := beq_eq_false_iff_ne.2 (by omega)
    have z2 : ((n : Int) == 0) = false := beq_eq_false_iff_ne.2 (by omega)
    have z3 : decide (n = 0) = false := decide_eq_false (by omega)
    have z4 : decide ((n : Int) = 0) = false := decide_eq_false (by omega)
    have hh := plain_else n hn (by omega) (by omega)
    go_enter Tryd.func37, Tryd.ntmps37
    go_wp2_with (go_at_call 50; ((with_reducible refine (Tryd.strings_IndexByte _ _ _).mono ?_); rintro e w1 ⟨rfl, rfl⟩))
    go_ret
    exact ⟨rfl, rfl⟩
end Go.Proofs.YtjbghpkdehikfaaDoor.Hand
