/- fill: FillCases' walk. -/
import Derived.Test.YtjbghpkdehikfaaDoorProg
import Derived.Below
import Derived.Deep.Draws
import Derived.Deep.AppendLies
import Derived.Maps.AppendAt
import Derived.OwnWalk
import Derived.Laws.BytesArg
import Derived.Laws.MakeOwn
import Derived.Laws.OwnMore
import Derived.Deep.OwnRows
import Derived.Tactics
import Derived.Lib.ConvBytes
import Derived.Laws.Slices
import Derived.WalkKit
import Derived.KernelRfl
import Derived.RowKit3
import Derived.Deep.LoopGhost
import Derived.Deep.QuietTactic
import Derived.BigQuiet
import Derived.WideLaws
import Derived.Deep.DeepCutAuto
import Derived.Deep.CutBlock
import Derived.Deep.RegionHeld3
import Derived.Laws.Rows
import Derived.Lib.AppendStr
import Derived.ArgAppend
import Derived.Laws.IdiomCopy
import Derived.OrdersHeld
import Derived.Laws.BitsLemmas
import Derived.RowKit
import Derived.Test.YtjbghpkdehikfaaDoorWWords
import Derived.Test.YtjbghpkdehikfaaDoorWLast
import Derived.Test.YtjbghpkdehikfaaDoorWTab
import Derived.Test.YtjbghpkdehikfaaDoorWFour
import Derived.Test.YtjbghpkdehikfaaDoorWQPut
import Derived.Test.YtjbghpkdehikfaaDoorWApart
import Derived.Test.YtjbghpkdehikfaaDoorWArr
import Derived.Test.YtjbghpkdehikfaaDoorWZeros
import Derived.Test.YtjbghpkdehikfaaDoorWFoot
import Derived.Test.YtjbghpkdehikfaaDoorWKept
import Derived.Test.YtjbghpkdehikfaaDoorWShare
import Derived.Test.YtjbghpkdehikfaaDoorWN
import Derived.Test.YtjbghpkdehikfaaDoorWFootNe
import Derived.Test.YtjbghpkdehikfaaDoorWAt
import Derived.Test.YtjbghpkdehikfaaDoorWEqStruct
import Derived.Test.YtjbghpkdehikfaaDoorWRepsOne
import Derived.Test.YtjbghpkdehikfaaDoorWInv
import Derived.Test.YtjbghpkdehikfaaDoorWInvWords
import Derived.Test.YtjbghpkdehikfaaDoorWGuard
import Derived.Test.YtjbghpkdehikfaaDoorWNEv
import Derived.Test.YtjbghpkdehikfaaDoorWMore
import Derived.Outline
import Derived.BigRegion
import Derived.Test.YtjbghpkdehikfaaDoorHKnown
namespace Go.Proofs.YtjbghpkdehikfaaDoor.Hand
open Go.RowKit Go.Shelf Go.Proofs.YtjbghpkdehikfaaDoorW.PrintWords Go.Proofs.YtjbghpkdehikfaaDoorW.PrintLast Go.Proofs.YtjbghpkdehikfaaDoorW.PrintMore
set_option linter.unusedVariables false
set_option linter.unusedSimpArgs false
set_option maxRecDepth 100000 in
theorem wr_div : ∀ n : Nat, n < 256 → IntKind.u8.wrap ((n : Int) / 16) = ((n / 16 : Nat) : Int) := by decide
set_option maxRecDepth 100000 in
theorem wr_one : ∀ n : Nat, n < 16 → IntKind.u8.wrap ((n : Int) + 1) = (n : Int) + 1 := by decide
def lowD (n : Nat) : UInt8 := if n < 10 then UInt8.ofNat (48 + n) else UInt8.ofNat (87 + n)
abbrev lowS : ByteArray := ⟨#[48, 49, 50, 51, 52, 53, 54, 55, 56, 57, 97, 98, 99, 100, 101, 102]⟩
abbrev upS : ByteArray := ⟨#[48, 49, 50, 51, 52, 53, 54, 55, 56, 57, 65, 66, 67, 68, 69, 70]⟩
theorem low_ext : ∀ p : Nat, p < 16 → (lowS.extract p (p + 1)).data.toList = [lowD p] := by decide +kernel
theorem up_ext : ∀ p : Nat, p < 16 → (upS.extract p (p + 1)).data.toList = [digU p] := by decide +kernel
theorem slice_str (s : ByteArray) (k : IntKind) (l h : Nat) (h1 : l ≤ h) (h2 : h ≤ s.size) (x : Int) (hx : x = h) (W : World) :
    (Instr.slice 9 (.string s) (some (.int k (l : Int))) (some (.int k x)) none).run Tryd.prog W = .ok (.string (s.extract l h)) W := by
  subst hx
  simp [Instr.slice, run_underlying Tryd.underlying9, Instr.sliceBounds, run_sliceBound, h1, h2]
theorem bl_is {s : ByteArray} {l : List UInt8} (h : s.data.toList = l) : s = ⟨l.toArray⟩ := by subst h; cases s; simp
theorem low_slice (p : Nat) (hp : p < 16) (W : World) : (Instr.slice 9 (.string lowS) (some (.int .u8 (p : Int))) (some (.int .u8 ((p : Int) + 1))) none).run Tryd.prog W = .ok (.string ⟨#[lowD p]⟩) W := by
  rw [slice_str lowS .u8 p (p + 1) (by omega) (by show p + 1 ≤ 16; omega) _ (by omega)]
  have := low_ext p hp
  exact congrArg (fun s => Result.ok (Value.string s) W) (bl_is this)
theorem up_slice (p : Nat) (hp : p < 16) (W : World) : (Instr.slice 9 (.string upS) (some (.int .u8 (p : Int))) (some (.int .u8 ((p : Int) + 1))) none).run Tryd.prog W = .ok (.string ⟨#[digU p]⟩) W := by
  rw [slice_str upS .u8 p (p + 1) (by omega) (by show p + 1 ≤ 16; omega) _ (by omega)]
  have := up_ext p hp
  exact congrArg (fun s => Result.ok (Value.string s) W) (bl_is this)
set_option maxRecDepth 100000 in
theorem un_low : ∀ p : Nat, p < 16 → ∀ q : Nat, q < 16 → unescR [37, lowD p, lowD q] = ([UInt8.ofNat (16 * p + q)], true) := by decide +kernel
set_option maxRecDepth 100000 in
theorem un_up : ∀ p : Nat, p < 16 → ∀ q : Nat, q < 16 → unescR [37, digU p, lowD q] = ([UInt8.ofNat (16 * p + q)], true) := by decide +kernel
theorem un_bad : ∀ p : Nat, p < 16 → unescR [37, lowD p, 103] = ([], false) := by decide +kernel
theorem un_plus : unescR [43, 37, 50, 66] = ([32, 43], true) := by decide +kernel
set_option maxHeartbeats 3200000 in
set_option maxRecDepth 100000 in
theorem cases (n : Nat) (hn : n < 256) (w : World) : Calls Tryd.prog 6 #[.int .u8 n] w fun e w' => e = .returned (.bool true) ∧ Below w.heap.size w w' := by
  obtain ⟨p, hp⟩ : ∃ p, n / 16 = p := ⟨_, rfl⟩
  obtain ⟨q, hq⟩ : ∃ q, n % 16 = q := ⟨_, rfl⟩
  have hp1 : p < 16 := by omega
  have hq1 : q < 16 := by omega
  have e1 := wr_div n hn
  rw [hp] at e1
  have e2 := wr_one p hp1
  have d1 := Aside0.mk (show (n : Int) / 16 = (p : Int) by omega)
  have d2 : ((p : Int) + 1) % 256 = (p : Int) + 1 := by omega
  have e3 : (n : Int).tmod 16 = (q : Int) := by rw [Int.tmod_eq_emod_of_nonneg (by omega)]; omega
  have e4 := wr_one q hq1
  have a2 : (p : Int) + 1 ≤ 16 := by omega
  have a3 : (0 : Int) ≤ (p : Int) + 1 := by omega
  have b2 : (q : Int) + 1 ≤ 16 := by omega
  have b3 : (0 : Int) ≤ (q : Int) + 1 := by omega
  have l1 := low_slice p hp1
  have l2 := low_slice q hq1
  have l3 := up_slice p hp1
  obtain ⟨c, hc⟩ : ∃ c, UInt8.ofNat n = c := ⟨_, rfl⟩
  have hcn : c.toNat = n := by rw [← hc]; exact UInt8.toNat_ofNat_of_lt' hn
  have hn2 : 16 * p + q = n := by omega
  have u1 := un_low p hp1 q hq1
  have u2 := un_up p hp1 q hq1
  have u3 := un_bad p hp1
  rw [hn2, hc] at u1 u2
  have c1 : ∀ W, Calls Tryd.prog 18 #[.string (⟨#[37]⟩ ++ ⟨#[lowD p]⟩ ++ ⟨#[lowD q]⟩)] W fun e w' => e = .returned (.tuple #[.string ⟨#[c]⟩, .bool true]) ∧ Below W.heap.size W w' := fun W => by
    have := unescape [37, lowD p, lowD q] W (by simp)
    rw [u1] at this
    rwa [show (⟨#[37]⟩ ++ ⟨#[lowD p]⟩ ++ ⟨#[lowD q]⟩ : ByteArray) = ⟨[37, lowD p, lowD q].toArray⟩ from bl_is (by simp)]
  have c2 : ∀ W, Calls Tryd.prog 18 #[.string (⟨#[37]⟩ ++ ⟨#[digU p]⟩ ++ ⟨#[lowD q]⟩)] W fun e w' => e = .returned (.tuple #[.string ⟨#[c]⟩, .bool true]) ∧ Below W.heap.size W w' := fun W => by
    have := unescape [37, digU p, lowD q] W (by simp)
    rw [u2] at this
    rwa [show (⟨#[37]⟩ ++ ⟨#[digU p]⟩ ++ ⟨#[lowD q]⟩ : ByteArray) = ⟨[37, digU p, lowD q].toArray⟩ from bl_is (by simp)]
  have c3 : ∀ W, Calls Tryd.prog 18 #[.string (⟨#[37]⟩ ++ ⟨#[lowD p]⟩ ++ ⟨#[103]⟩)] W fun e w' => e = .returned (.tuple #[.string ⟨#[]⟩, .bool false]) ∧ Below W.heap.size W w' := fun W => by
    have := unescape [37, lowD p, 103] W (by simp)
    rw [u3] at this
    rwa [show (⟨#[37]⟩ ++ ⟨#[lowD p]⟩ ++ ⟨#[103]⟩ : ByteArray) = ⟨[37, lowD p, 103].toArray⟩ from bl_is (by simp)]
  have c4 : ∀ W, Calls Tryd.prog 18 #[.string ⟨#[43, 37, 50, 66]⟩] W fun e w' => e = .returned (.tuple #[.string ⟨#[32, 43]⟩, .bool true]) ∧ Below W.heap.size W w' := fun W => by
    have := unescape [43, 37, 50, 66] W (by simp)
    rwa [un_plus] at this
  clear u1 u2 u3 hn2 hc hp hq
  have HB0 := Aside0.mk (Below.refl w.heap.size w)
  go_enter Tryd.func6, Tryd.ntmps6
  go_upto_region 1 with fail
  go_region_with (go_at_call 18; ((with_reducible refine (c1 _).mono ?_); rintro e w1 ⟨rfl, hb⟩; have HB1 := Aside0.mk ((Below.refl w.heap.size w).drew.trans hb); clear hb))
  go_upto_region 2 with fail
  go_region_with (go_at_call 18; ((with_reducible refine (c2 _).mono ?_); rintro e w2 ⟨rfl, hb⟩; have HB2 := Aside0.mk (HB1.out.drew.trans (hb.mono HB1.out.size)); clear hb))
  go_upto_region 4 with (go_at_call 18; ((with_reducible refine (c4 _).mono ?_); rintro e w3 ⟨rfl, hb⟩; have HB3 := Aside0.mk (HB2.out.trans (hb.mono HB2.out.size)); clear hb))
  have d3 := d1.out
  have hix : ∀ h, (((⟨#[c]⟩ : ByteArray)[0]'h).toNat : Int) = (n : Int) := fun h => congrArg Int.ofNat hcn
  go_wp2_with (first
    | (go_at_call 18; ((with_reducible refine (c3 _).mono ?_); rintro e w4 ⟨rfl, hb⟩; have HB4 := Aside0.mk (HB3.out.trans (hb.mono HB3.out.size)); clear hb))
    | (go_at_call 10; ((with_reducible refine (known _).mono ?_); rintro e w5 ⟨rfl, hb⟩; have HB5 := Aside0.mk (HB4.out.trans (hb.mono HB4.out.size)); clear hb)))
  go_ret
  exact ⟨rfl, HB5.out⟩
theorem fillCases_row (a0 : Int) (w : World) (h : (Lit.int .u8 a0).wf = true) : Calls Tryd.prog 6 #[.int .u8 a0] w fun e w' => e = .returned (.bool true) ∧ Below w.heap.size w w' := by
  have h' : 0 ≤ a0 ∧ a0 < 256 := by simp [Lit.wf, IntKind.min, IntKind.max, IntKind.bits, IntKind.signed] at h; omega
  obtain ⟨n, rfl⟩ := Int.eq_ofNat_of_zero_le h'.1
  exact cases n (by omega) w
end Go.Proofs.YtjbghpkdehikfaaDoor.Hand
