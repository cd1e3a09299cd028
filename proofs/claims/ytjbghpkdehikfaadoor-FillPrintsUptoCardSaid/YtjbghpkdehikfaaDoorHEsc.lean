/- fill: Escape. -/
import Derived.Test.YtjbghpkdehikfaaDoorProg
import Derived.Below
import Derived.Deep.Draws
import Derived.Deep.AppendLies
import Derived.Maps.AppendAt
import Derived.OwnWalk
import Derived.Laws.BytesArg
import Derived.Laws.MakeOwn
import Derived.Laws.OwnMore
import Derived.Deep.OwnRows
import Derived.Tactics
import Derived.Lib.ConvBytes
import Derived.Laws.Slices
import Derived.WalkKit
import Derived.KernelRfl
import Derived.RowKit3
import Derived.Deep.LoopGhost
import Derived.Deep.QuietTactic
import Derived.BigQuiet
import Derived.WideLaws
import Derived.Deep.DeepCutAuto
import Derived.Deep.CutBlock
import Derived.Deep.RegionHeld3
import Derived.Laws.Rows
import Derived.Lib.AppendStr
import Derived.ArgAppend
import Derived.Laws.IdiomCopy
import Derived.OrdersHeld
import Derived.Laws.BitsLemmas
import Derived.RowKit
import Derived.Test.YtjbghpkdehikfaaDoorWWords
import Derived.Test.YtjbghpkdehikfaaDoorWLast
import Derived.Test.YtjbghpkdehikfaaDoorWTab
import Derived.Test.YtjbghpkdehikfaaDoorWFour
import Derived.Test.YtjbghpkdehikfaaDoorWQPut
import Derived.Test.YtjbghpkdehikfaaDoorWApart
import Derived.Test.YtjbghpkdehikfaaDoorWArr
import Derived.Test.YtjbghpkdehikfaaDoorWZeros
import Derived.Test.YtjbghpkdehikfaaDoorWFoot
import Derived.Test.YtjbghpkdehikfaaDoorWKept
import Derived.Test.YtjbghpkdehikfaaDoorWShare
import Derived.Test.YtjbghpkdehikfaaDoorWN
import Derived.Test.YtjbghpkdehikfaaDoorWFootNe
import Derived.Test.YtjbghpkdehikfaaDoorWAt
import Derived.Test.YtjbghpkdehikfaaDoorWEqStruct
import Derived.Test.YtjbghpkdehikfaaDoorWRepsOne
import Derived.Test.YtjbghpkdehikfaaDoorWInv
import Derived.Test.YtjbghpkdehikfaaDoorWInvWords
import Derived.Test.YtjbghpkdehikfaaDoorWGuard
import Derived.Test.YtjbghpkdehikfaaDoorWNEv
import Derived.Test.YtjbghpkdehikfaaDoorWMore
import Derived.Outline
import Derived.WalkMore
import Derived.BigRegion
import Derived.Test.YtjbghpkdehikfaaDoorHUn
namespace Go.Proofs.YtjbghpkdehikfaaDoor.Hand
open Go.RowKit Go.Proofs.YtjbghpkdehikfaaDoorW.PrintWords Go.Proofs.YtjbghpkdehikfaaDoorW.PrintLast Go.Proofs.YtjbghpkdehikfaaDoorW.PrintMore
set_option linter.unusedVariables false
def digU (n : Nat) : UInt8 := if n < 10 then UInt8.ofNat (48 + n) else UInt8.ofNat (55 + n)
def escB (c : UInt8) : List UInt8 := if plainF c then [c] else if c = 32 then [43] else [37, digU (c.toNat / 16), digU (c.toNat % 16)]
def escR (l : List UInt8) : List UInt8 := l.flatMap escB
theorem conv (s : List UInt8) (w : World) : ∃ W c, (convert 9 22 (.string ⟨s.toArray⟩)).run Tryd.prog w = .ok (.slice (some ⟨w.heap.size, 0, none⟩) s.length c) W ∧
    (∀ j (hj : j < s.length), W.cell? ⟨w.heap.size, j, none⟩ = some (.int .u8 (s[j]'hj).toNat)) ∧ W.heap.size = w.heap.size + 1 ∧ Below w.heap.size w W := by
  refine ⟨_, _, Lib.run_convert_string_bytes w 9 22 5 ⟨s.toArray⟩ Tryd.underlying9 Tryd.underlying22 Tryd.underlying5, fun j hj => ?_, Lib.bytesWorld_size _ _ _, ⟨rfl, rfl, rfl, ?_, fun k hk => Lib.bytesWorld_at_old _ _ _ _ hk⟩⟩
  · rw [Lib.bytesWorld_cell w 5 ⟨s.toArray⟩ j hj]
    simp [List.getD, hj]
  · rw [Lib.bytesWorld_size]; omega
theorem escR_succ (s : List UInt8) (k : Nat) (h : k < s.length) : escR (s.take (k + 1)) = escR (s.take k) ++ escB (s[k]'h) := by
  unfold escR
  rw [List.take_succ_eq_append_getElem h, List.flatMap_append]
  simp
theorem escB_len (c : UInt8) : (escB c).length ≤ 3 := by
  unfold escB; split
  · simp
  · split <;> simp
theorem escR_len (s : List UInt8) : (escR s).length ≤ 3 * s.length := by
  induction s with
  | nil => simp [escR]
  | cons c s ih => have := escB_len c; simp [escR] at ih ⊢; omega
set_option maxRecDepth 100000 in
theorem and15 : ∀ n : Nat, n < 256 → bits BinOp.and IntKind.u8 (n : Int) 15 = (n : Int) % 16 := by decide +kernel
theorem dig_all : ∀ n : Nat, ∀ h : n < 16, (⟨#[48, 49, 50, 51, 52, 53, 54, 55, 56, 57, 65, 66, 67, 68, 69, 70]⟩ : ByteArray)[n]'h = digU n := by decide
theorem dig_at (m : Nat) (x : Int) (hx : x = m) (hm : m < 16) (h : x.toNat < (⟨#[48, 49, 50, 51, 52, 53, 54, 55, 56, 57, 65, 66, 67, 68, 69, 70]⟩ : ByteArray).size) :
    (⟨#[48, 49, 50, 51, 52, 53, 54, 55, 56, 57, 65, 66, 67, 68, 69, 70]⟩ : ByteArray)[x.toNat]'h = digU m := by
  subst hx
  exact dig_all m hm
theorem Write3 (lo b : Nat) (bs : List Value) (x y z : Int) (w : World) (h : Bl lo b bs w) (hlen : bs.length + 3 ≤ 140737488355328) :
    Calls Tryd.prog 38 #[.pointer (some ⟨b, 0, none⟩), .slice (some ⟨w.heap.size, 0, none⟩) 3 3] ((w.alloc (.cells #[.int .u8 x, .int .u8 y, .int .u8 z] 5)).drew) fun e w' => e = .returned (.tuple #[.int .i64 3, .nilIface]) ∧ (Bu lo b (bs ++ [.int .u8 x, .int .u8 y, .int .u8 z]) w' ∧ Kept lo b w w') := by
  have hnew : (w.alloc (.cells #[.int .u8 x, .int .u8 y, .int .u8 z] 5)).drew.heap[w.heap.size]? = some (.cells #[.int .u8 x, .int .u8 y, .int .u8 z] 5 (0, 0)) := al_new _ _ _ rfl
  refine (Write lo b bs ⟨w.heap.size, 0, none⟩ 3 3 [.int .u8 x, .int .u8 y, .int .u8 z] _ (h.alloc _).drew rfl ?_ ?_ ?_ (by omega)).mono ?_
  · intro j u hj
    match j, hj with
    | 0, hj => simp at hj; subst hj; simp [Addr.add, Lib.cell_of_heap hnew]
    | 1, hj => simp at hj; subst hj; simp [Addr.add, Lib.cell_of_heap hnew]
    | 2, hj => simp at hj; subst hj; simp [Addr.add, Lib.cell_of_heap hnew]
  · have h1 := h.1; have h2 := h.2.1
    show w.heap.size ≠ b
    omega
  · intro u hu
    simp at hu
    rcases hu with rfl | rfl | rfl <;> rfl
  · rintro e w' ⟨rfl, h1, h2⟩
    exact ⟨rfl, h1, (((Kept.refl lo b w).alloc h.2.1 _).drew).trans h2⟩

set_option maxHeartbeats 3200000 in
set_option maxRecDepth 100000 in
theorem escape (s : List UInt8) (w : World) (hs : 3 * s.length < 140737488355328) :
    Calls Tryd.prog 23 #[.string ⟨s.toArray⟩] w fun e w' => e = .returned (.string ⟨(escR s).toArray⟩) ∧ Below w.heap.size w w' := by
  obtain ⟨W, cc, hrun, hcells, hsz, hbel⟩ := conv s (w.alloc (.cells #[.pointer none, .slice none 0 0] 65))
  have hsz0 : (w.alloc (.cells #[.pointer none, .slice none 0 0] 65)).heap.size = w.heap.size + 1 := by simp
  rw [hsz0] at hsz hbel hrun hcells
  have hBl0 : Aside0 (Bl (w.heap.size + 2) w.heap.size (Lib.byteCells (escR (s.take 0))) W) := ⟨Bl.fresh _ _ ((hbel.block _ (by omega)).trans (al_new _ _ _ rfl)) (by omega) (by omega)⟩
  have HW := Aside0.mk (((Below.refl w.heap.size w).alloc (Nat.le_refl _) (.cells #[.pointer none, .slice none 0 0] 65)).trans (hbel.mono (by omega)))
  go_enter Tryd.func23, Tryd.ntmps23
  go_wp2
  go_step3
  go_wp2
  go_step3
  go_wp2
  clear hrun hbel hsz0 hsz
  go_loopw [5, 9] (fun c i w' => ∃ k : Nat, k ≤ s.length ∧ i = .int .i64 k ∧ Aside0 (Bl (w.heap.size + 2) w.heap.size (Lib.byteCells (escR (s.take k))) w') ∧ Aside0 (Kept (w.heap.size + 2) w.heap.size W w')) (fun _ i _ => s.length - (intOf i).toNat)
  case atStart => exact ⟨0, by omega, rfl, hBl0, ⟨Kept.refl _ _ _⟩⟩
  case round =>
    obtain ⟨k, hk, rfl, HBl, HK⟩ := hrel
    by_cases hlt : k < s.length
    · obtain ⟨c, hc⟩ : ∃ c, s[k]'hlt = c := ⟨_, rfl⟩
      have hcell := (HK.out.cell (p := ⟨w.heap.size + 1, k, none⟩) (by show w.heap.size + 1 < _; omega) (by show w.heap.size + 1 ≠ _; omega)).trans ((hcells k hlt).trans (by rw [hc]))
      have hblen : (Lib.byteCells (escR (s.take k))).length + 3 ≤ 140737488355328 := by
        have h := escR_len (s.take k)
        simp [Lib.byteCells] at h ⊢; omega
      have hsucc := escR_succ s k hlt
      rw [hc] at hsucc
      have hbs := Aside0.mk (show Lib.byteCells (escR (s.take (k + 1))) = Lib.byteCells (escR (s.take k)) ++ Lib.byteCells (escB c) by rw [hsucc, Lib.byteCells_append])
      have hblk := Aside0.mk HBl.out.2.1
      clear hsucc hcells
      cases hp : plainF c with
      | true =>
        have hB := Aside0.mk (show escB c = [c] by unfold escB; rw [if_pos hp])
        go_wp2_with (first
          | (go_at_call 37; ((with_reducible refine (plain c _).mono ?_); rintro e w1 ⟨rfl, rfl⟩; rw [hp]))
          | (go_at_call 32; ((with_reducible refine (WriteByte (w.heap.size + 2) w.heap.size _ _ _ HBl.out (by omega)).mono ?_); rintro e w2 ⟨rfl, h2, k2⟩)))
        go_roundw
        case rel => exact ⟨k + 1, by omega, by go_num, ⟨by rw [hbs.out, hB.out]; exact h2.bl⟩, ⟨HK.out.trans k2⟩⟩
        case measure => simp [intOf]; omega
      | false =>
        by_cases h32 : c = 32
        · have e32 : ((c.toNat : Int) == 32) = true := by rw [h32]; rfl
          have hB := Aside0.mk (show escB c = [43] by unfold escB; rw [if_neg (by rw [hp]; decide), if_pos h32])
          clear h32
          go_wp2_with (first
            | (go_at_call 37; ((with_reducible refine (plain c _).mono ?_); rintro e w1 ⟨rfl, rfl⟩; rw [hp]))
            | (go_at_call 32; ((with_reducible refine (WriteByte (w.heap.size + 2) w.heap.size _ _ _ HBl.out (by omega)).mono ?_); rintro e w2 ⟨rfl, h2, k2⟩)))
          go_roundw
          case rel => exact ⟨k + 1, by omega, by go_num, ⟨by rw [hbs.out, hB.out]; exact h2.bl⟩, ⟨HK.out.trans k2⟩⟩
          case measure => simp [intOf]; omega
        · have n32 : c.toNat ≠ 32 := u8_ne h32
          have e32 : ((c.toNat : Int) == 32) = false := beq_eq_false_iff_ne.2 (by omega)
          have hB := Aside0.mk (show escB c = [37, digU (c.toNat / 16), digU (c.toNat % 16)] by unfold escB; rw [if_neg (by rw [hp]; decide), if_neg h32])
          go_upto_region 9 with (go_at_call 37; ((with_reducible refine (plain c _).mono ?_); rintro e w1 ⟨rfl, rfl⟩; rw [hp]))
          have hx := c.toNat_lt
          have i1 : (c.toNat : Int) / 16 < 16 := by omega
          have i0 : (0 : Int) ≤ (c.toNat : Int) / 16 := by omega
          have i3 : (0 : Int) ≤ (c.toNat : Int) % 16 := by omega
          have hand := and15 c.toNat hx
          have i2 : (c.toNat : Int) % 16 < 16 := by omega
          have d1 := Aside0.mk (dig_at (c.toNat / 16) ((c.toNat : Int) / 16) (by omega) (by omega))
          have d2 := Aside0.mk (dig_at (c.toNat % 16) ((c.toNat : Int) % 16) (by omega) (by omega))
          go_region_with (go_at_call 38; ((with_reducible refine (Write3 (w.heap.size + 2) w.heap.size _ _ _ _ _ HBl.out hblen).mono ?_); rintro e w3 ⟨rfl, h3, k3⟩))
          all_goals go_wp2
          all_goals go_roundw
          all_goals first
            | (simp [intOf]; omega)
            | exact ⟨k + 1, by omega, by go_num, ⟨by have h := h3.bl; rw [d1.out, d2.out] at h; rw [hbs.out, hB.out]; exact h⟩, ⟨HK.out.trans k3⟩⟩
    · have hke : k = s.length := by omega
      subst hke
      have HS := Tryd.Builder_String_any w.heap.size w.heap.size (escR s) _ (by have := HBl.out.is; rwa [List.take_length] at this) (by have := HBl.out.2.1; omega)
      go_wp2_with (go_at_call 34; ((with_reducible refine HS.mono ?_); rintro e w1 ⟨rfl, hb⟩; have HB1 := Aside0.mk ((HW.out.trans (HK.out.below (B := w.heap.size) (by omega) (Nat.le_refl _))).trans hb)))
      rw [Exit.noGoto_ret]
      go_ret
      exact ⟨rfl, HB1.out⟩
end Go.Proofs.YtjbghpkdehikfaaDoor.Hand
