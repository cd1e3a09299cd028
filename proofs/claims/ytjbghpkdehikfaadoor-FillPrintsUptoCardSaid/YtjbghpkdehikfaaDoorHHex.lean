/- fill: a byte of two digits. -/
import Derived.Test.YtjbghpkdehikfaaDoorProg
import Derived.Below
import Derived.Deep.Draws
import Derived.Deep.AppendLies
import Derived.Maps.AppendAt
import Derived.OwnWalk
import Derived.Laws.BytesArg
import Derived.Laws.MakeOwn
import Derived.Laws.OwnMore
import Derived.Deep.OwnRows
import Derived.Tactics
import Derived.Lib.ConvBytes
import Derived.Laws.Slices
import Derived.WalkKit
import Derived.KernelRfl
import Derived.RowKit3
import Derived.Deep.LoopGhost
import Derived.Deep.QuietTactic
import Derived.BigQuiet
import Derived.WideLaws
import Derived.Deep.DeepCutAuto
import Derived.Deep.CutBlock
import Derived.Deep.RegionHeld3
import Derived.Laws.Rows
import Derived.Lib.AppendStr
import Derived.ArgAppend
import Derived.Laws.IdiomCopy
import Derived.OrdersHeld
import Derived.Laws.BitsLemmas
import Derived.RowKit
import Derived.Test.YtjbghpkdehikfaaDoorWWords
import Derived.Test.YtjbghpkdehikfaaDoorWLast
import Derived.Test.YtjbghpkdehikfaaDoorWTab
import Derived.Test.YtjbghpkdehikfaaDoorWFour
import Derived.Test.YtjbghpkdehikfaaDoorWQPut
import Derived.Test.YtjbghpkdehikfaaDoorWApart
import Derived.Test.YtjbghpkdehikfaaDoorWArr
import Derived.Test.YtjbghpkdehikfaaDoorWZeros
import Derived.Test.YtjbghpkdehikfaaDoorWFoot
import Derived.Test.YtjbghpkdehikfaaDoorWKept
import Derived.Test.YtjbghpkdehikfaaDoorWShare
import Derived.Test.YtjbghpkdehikfaaDoorWN
import Derived.Test.YtjbghpkdehikfaaDoorWFootNe
import Derived.Test.YtjbghpkdehikfaaDoorWAt
import Derived.Test.YtjbghpkdehikfaaDoorWEqStruct
import Derived.Test.YtjbghpkdehikfaaDoorWRepsOne
import Derived.Test.YtjbghpkdehikfaaDoorWInv
import Derived.Test.YtjbghpkdehikfaaDoorWInvWords
import Derived.Test.YtjbghpkdehikfaaDoorWGuard
import Derived.Test.YtjbghpkdehikfaaDoorWNEv
import Derived.Test.YtjbghpkdehikfaaDoorWMore
import Derived.Outline
import Derived.Test.YtjbghpkdehikfaaDoorHNext
namespace Go.Proofs.YtjbghpkdehikfaaDoor.Hand
open Go.RowKit Go.Proofs.YtjbghpkdehikfaaDoorW.PrintWords Go.Proofs.YtjbghpkdehikfaaDoorW.PrintLast Go.Proofs.YtjbghpkdehikfaaDoorW.PrintMore
set_option linter.unusedVariables false
theorem nextE {rb : Nat} {l : List UInt8} {ok : Bool} {a : UInt8} {l1 : List UInt8} {o1 : Bool} (hn : nxt l ok = (a, l1, o1)) {w : World} (h : Rd rb l ok w) :
    Calls Tryd.prog 31 #[.pointer (some ⟨rb, 0, none⟩)] w fun e w' => e = .returned (.int .u8 a.toNat) ∧ (Rd rb l1 o1 w' ∧ Only rb w w') := by
  have := next rb l ok w h
  rw [hn] at this
  exact this
theorem Rd.c1 {rb : Nat} {l : List UInt8} {ok : Bool} {w : World} (h : Rd rb l ok w) : w.cell? ⟨rb, 1, none⟩ = some (.bool ok) := by rw [Lib.cell_of_heap h]; rfl
theorem Rd.c0 {rb : Nat} {l : List UInt8} {ok : Bool} {w : World} (h : Rd rb l ok w) : w.cell? ⟨rb, 0, none⟩ = some (.string ⟨l.toArray⟩) := by rw [Lib.cell_of_heap h]; rfl
theorem Rd.f1 {rb : Nat} {l : List UInt8} {ok : Bool} {w : World} (h : Rd rb l ok w) : w.frozen? ⟨rb, 1, none⟩ = false := Lib.frozen_of_heap h 1
theorem Rd.set1 {rb : Nat} {l : List UInt8} {ok : Bool} {w : World} (h : Rd rb l ok w) (o : Bool) : Rd rb l o (w.setCell ⟨rb, 1, none⟩ (.bool o)) := by
  simp [Rd, World.setCell, Array.getElem?_modify, show w.heap[rb]? = _ from h]

def hexV (a b : UInt8) : UInt8 := UInt8.ofNat (16 * (halfF a).toNat + (halfF b).toNat)
def hexOk (ok : Bool) (a b : UInt8) : Bool := ok && decide (0 ≤ halfF a) && decide (0 ≤ halfF b)

theorem halfF_lt (c : UInt8) : halfF c < 16 := by
  unfold halfF
  split
  · omega
  · split
    · omega
    · split <;> omega
set_option maxRecDepth 100000 in
theorem hex_val : ∀ m : Nat, m < 16 → ∀ n : Nat, n < 16 → bits BinOp.or IntKind.i64 (wrap64 ((m : Int) * 16)) (n : Int) % 256 = ((UInt8.ofNat (16 * m + n)).toNat : Int) := by decide +kernel
theorem hex_pq (a b : UInt8) (p q : Int) (hp : halfF a = p) (hq : halfF b = q) (hx : decide (0 ≤ p) = true) (hy : decide (0 ≤ q) = true) :
    bits BinOp.or IntKind.i64 (wrap64 (p * 16)) q % 256 = ((hexV a b).toNat : Int) := by
  have h1 := of_decide_eq_true hx; have h2 := of_decide_eq_true hy
  have h3 := halfF_lt a; have h4 := halfF_lt b
  rw [hp] at h3; rw [hq] at h4
  obtain ⟨m, rfl⟩ := Int.eq_ofNat_of_zero_le h1
  obtain ⟨n, rfl⟩ := Int.eq_ofNat_of_zero_le h2
  unfold hexV
  rw [hp, hq]
  exact hex_val m (by omega) n (by omega)

set_option maxHeartbeats 1600000 in
set_option maxRecDepth 100000 in
theorem hex {rb : Nat} {l : List UInt8} {ok : Bool} {a : UInt8} {l1 : List UInt8} {o1 : Bool} (hn : nxt l ok = (a, l1, o1)) {b : UInt8} {l2 : List UInt8} {o2 : Bool} (hm : nxt l1 o1 = (b, l2, o2)) {w : World} (h : Rd rb l ok w) :
    Calls Tryd.prog 33 #[.pointer (some ⟨rb, 0, none⟩)] w fun e w' => ∃ v : Int, e = .returned (.int .u8 v) ∧ (Rd rb l2 (hexOk o2 a b) w' ∧ Only rb w w') ∧ (hexOk o2 a b = true → v = (hexV a b).toNat) := by
  have hv : ∀ x : Bool, hexOk o2 a b = x → hexOk o2 a b = x := fun _ h => h
  obtain ⟨p, hp⟩ : ∃ p, halfF a = p := ⟨_, rfl⟩
  obtain ⟨q, hq⟩ : ∃ q, halfF b = q := ⟨_, rfl⟩
  obtain ⟨x, hx⟩ : ∃ x, decide (0 ≤ p) = x := ⟨_, rfl⟩
  obtain ⟨y, hy⟩ : ∃ y, decide (0 ≤ q) = y := ⟨_, rfl⟩
  have ha : ∀ w, Calls Tryd.prog 47 #[.int .u8 a.toNat] w fun e w' => e = .returned (.int .i64 p) ∧ w' = w := fun w => hp ▸ half a w
  have hb : ∀ w, Calls Tryd.prog 47 #[.int .u8 b.toNat] w fun e w' => e = .returned (.int .i64 q) ∧ w' = w := fun w => hq ▸ half b w
  have hfin := Aside0.mk (show hexOk o2 a b = (o2 && x && y) by unfold hexOk; rw [hp, hq, hx, hy])
  cases o2 <;> cases x <;> cases y <;>
  · go_enter Tryd.func33, Tryd.ntmps33
    go_wp2_with (first
      | (go_at_call 31; first
          | ((with_reducible refine (nextE hm h1).mono ?_); rintro e w2 ⟨rfl, h2, k2⟩; have c1 := h2.c1; have f1 := h2.f1)
          | ((with_reducible refine (nextE hn h).mono ?_); rintro e w1 ⟨rfl, h1, k1⟩))
      | (go_at_call 47; first
          | ((with_reducible refine (hb _).mono ?_); rintro e wx ⟨rfl, rfl⟩)
          | ((with_reducible refine (ha _).mono ?_); rintro e wx ⟨rfl, rfl⟩)))
    go_ret
    refine ⟨_, rfl, ⟨by rw [hfin.out]; exact h2.set1 _, (k1.trans k2).trans (Only.setCell _ _ _ _)⟩, ?_⟩
    intro he
    first
      | (rw [hfin.out] at he; exact absurd he (by decide))
      | exact hex_pq a b p q hp hq hx hy
end Go.Proofs.YtjbghpkdehikfaaDoor.Hand
