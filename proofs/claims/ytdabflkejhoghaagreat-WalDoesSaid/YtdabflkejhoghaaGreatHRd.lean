/- The reference: ref01.Put. -/
import Derived.Below
import Derived.Deep.Draws
import Derived.Deep.AppendLies
import Derived.Maps.AppendAt
import Derived.OwnWalk
import Derived.Laws.BytesArg
import Derived.Laws.MakeOwn
import Derived.Laws.OwnMore
import Derived.Deep.OwnRows
import Derived.Tactics
import Derived.Lib.ConvBytes
import Derived.Laws.Slices
import Derived.WalkKit
import Derived.KernelRfl
import Derived.RowKit3
import Derived.Deep.LoopGhost
import Derived.Deep.QuietTactic
import Derived.BigQuiet
import Derived.WideLaws
import Derived.Deep.DeepCutAuto
import Derived.Deep.CutBlock
import Derived.Deep.RegionHeld3
import Derived.Laws.Rows
import Derived.Lib.AppendStr
import Derived.ArgAppend
import Derived.Laws.IdiomCopy
import Derived.OrdersHeld
import Derived.Laws.BitsLemmas
import Derived.RowKit
import Derived.Outline
import Derived.Maps.Own
import Derived.Maps.OwnOps
import Derived.Maps.OwnSet
import Derived.Maps.Views
import Derived.Maps.RangeWalk
import Derived.Maps.Ext
import Derived.RangeFuncOwn
import Derived.OneCell
import Derived.Deep.DeepMust
import Derived.Lib.Hide
import Derived.StillTailTactics
import Derived.Laws.AppendOwnNone
import Derived.WalkMore
import Derived.Lib.SlBytesConst
import Derived.WalkLawsBesides
import Derived.Laws.BitsAllLaws
import Derived.Test.YtdabflkejhoghaaGreatHRc
import Derived.Test.YtdabflkejhoghaaGreatHQc
namespace Go.Proofs.YtdabflkejhoghaaGreat.Hand
open Go Go.RowKit Go.Proofs.YtdabflkejhoghaaGreat.HW Go.Proofs.YtdabflkejhoghaaGreatW.PrintLast Go.Proofs.YtdabflkejhoghaaGreat.HW
attribute [local go_sem] max2_int min2_int max_two min_two
set_option linter.unusedVariables false
set_option linter.unusedSimpArgs false
theorem putB_at (n : Nat) : ∀ (m k : Nat) (h : k < (putB n m).length), (putB n m)[k] = UInt8.ofNat (n / 256 ^ (m - 1 - k))
  | 0, k, h => by simp [putB] at h
  | m + 1, 0, h => by simp [putB]
  | m + 1, k + 1, h => by
    have h' : k < (putB n m).length := by simpa [putB] using h
    have := putB_at n m k h'
    simp only [putB, List.getElem_cons_succ]
    rw [this]
    congr 3; omega
theorem putB_take (n m k : Nat) (hk : k < m) : (putB n m).take (k + 1) = (putB n m).take k ++ [UInt8.ofNat (n / 256 ^ (m - 1 - k))] := by
  have h : k < (putB n m).length := by rw [putB_length]; exact hk
  rw [List.take_succ_eq_append_getElem h, putB_at n m k h]
theorem BytesV.lit1 {w : World} {A : Nat → Prop} {x : UInt8} {T : TypeId} {fr : Nat × Nat} (hA : A w.heap.size) : BytesV (w.alloc (.cells #[.int .u8 (x.toNat : Int)] T fr)) A (.slice (some ⟨w.heap.size, 0, none⟩) 1 1) [x] :=
  BytesV.cells (b := [x]) (World.alloc_heap_new w _) hA (fun j hj => by match j, hj with | 0, _ => rfl) (Nat.le_refl _) (by decide)
set_option maxHeartbeats 1000000 in
set_option maxRecDepth 100000 in
/-- the reference's Put -/
theorem r01Put (n m : Nat) (w : World) (hm1 : 1 ≤ m) (hm8 : m ≤ 8) (hn : n < 18446744073709551616) :
    Calls Tryz.prog 71 #[.int .u64 (n : Int), .int .i64 (m : Int)] w (NewB w (putB n m)) := by
  unfold NewB
  rw [putB_length]
  have m1 : ¬ ((8 : Int) < (m : Int)) := by omega
  have m2 : (0 : Int) < (m : Int) := by omega
  go_enter Tryz.func71, Tryz.ntmps71
  go_wp2
  clear m1 m2
  obtain ⟨g, hg⟩ : ∃ g, g = w.heap.size := ⟨_, rfl⟩
  have hI0 : Hid (w.ownsRow g 5 1 (.slice none 0 0) 0 (bcells ((putB n m).take 0)) ∧ Kp [] g w w) := ⟨⟨rfl, .inl ⟨rfl, rfl⟩⟩, Kp.refl _ _ _⟩
  have HG := Lib.hid hg
  clear hg
  go_loopw [5, 6] (fun v i wr => ∃ k : Nat, k ≤ m ∧ i = .int .i64 ((m : Int) - 1 - (k : Int)) ∧ Hid (wr.ownsRow g 5 1 v k (bcells ((putB n m).take k)) ∧ Kp [] g w wr)) (fun _ i _ => (intOf i + 1).toNat)
  case atStart => exact ⟨0, by omega, by simp, hI0.out⟩
  case round =>
    obtain ⟨k, hk, rfl, HI⟩ := hrel
    by_cases hlt : k < m
    · obtain ⟨p, hp⟩ : ∃ p, p = m - 1 - k := ⟨_, rfl⟩
      have e1 : (m : Int) - 1 - (k : Int) = (p : Int) := by omega
      rw [e1]
      have hp8 : p < 8 := by omega
      have d1 : decide ((0 : Int) ≤ (p : Int)) = true := decide_eq_true (by omega)
      have HT := Lib.hid (putB_take n m k hlt)
      rw [← hp] at HT
      have HP := Lib.hid hp
      clear hp e1
      go_wp2
      go_loop [7, 8] (fun x i => ∃ j : Nat, j ≤ p ∧ i = .int .i64 (j : Int) ∧ ∃ y : Nat, x = .int .u64 (y : Int) ∧ Hid (y = n / 256 ^ j)) (fun _ i => p - (intOf i).toNat)
      case atStart => exact ⟨0, by omega, rfl, n, rfl, by show n = n / 256 ^ 0; simp⟩
      case round =>
        obtain ⟨j, hj, rfl, y, rfl, HY⟩ := hrel
        have hy : y < 18446744073709551616 := by rw [HY.out]; exact Nat.lt_of_le_of_lt (Nat.div_le_self _ _) hn
        by_cases hjp : j < p
        · clear d1
          go_wp2
          go_round
          case rel => exact ⟨j + 1, by omega, by go_num, y / 256, by go_num, by show y / 256 = n / 256 ^ (j + 1); rw [HY.out, Nat.div_div_eq_div_mul, Nat.pow_succ]⟩
          case measure => simp [intOf]; omega
        · obtain rfl : j = p := by omega
          obtain ⟨c, hc⟩ : ∃ c, c = UInt8.ofNat y := ⟨_, rfl⟩
          have hcI : (y : Int) % 256 = (c.toNat : Int) := by rw [hc]; simp
          have HC : Hid (c = UInt8.ofNat (n / 256 ^ j)) := by rw [← HY.out]; exact hc
          have hc8 : c.toNat < 256 := UInt8.toNat_lt _
          obtain ⟨hown, hkp⟩ := HI.out
          have HW := Lib.hid hown
          have HK := Lib.hid hkp
          have hgz : g ≤ wr.heap.size := by rw [HG.out]; exact hkp.size
          clear d1 hc HI hown hkp
          go_wp2_with (at_builtin; go_must (refine wpList_appB rfl _ _ rfl g _ k _ rfl (HW.out.alloc _) (A := fun _ => True) (b := [c]) rfl (BytesV.lit1 trivial) (by simp; omega) (by simp; omega) ?_; intro v2 w2 ho2 hg2))
          have hkg : Kp [] g _ w2 := kp_grown hg2 (own_ge HW.out) (Nat.le_trans hgz (by simp))
          have HK2 := Lib.hid ((HK.out.alloc hgz _).trans hkg)
          have ho3 : w2.ownsRow g 5 1 v2 (k + 1) (bcells ((putB n m).take (k + 1))) := by
            rw [HT.out, bcells_app, ← HC.out]; exact ho2
          have HO3 := Lib.hid ho3
          clear ho2 hg2 hkg ho3
          go_wp2
          go_roundw
          case rel => exact ⟨k + 1, by omega, by have e := HP.out; congr 1; omega, HO3.out, HK2.out⟩
          case measure => simp [intOf]
    · obtain rfl : k = m := by omega
      have e1 : (k : Int) - 1 - (k : Int) = -1 := by omega
      rw [e1]
      go_wp2
      go_ret
      have h1 := HI.out.1
      have hl : (putB n k).take k = putB n k := List.take_of_length_le (by rw [putB_length]; exact Nat.le_refl _)
      rw [hl] at h1
      have h2 := HI.out.2
      rw [HG.out] at h1 h2
      exact ⟨_, rfl, h1, h2.below⟩
end Go.Proofs.YtdabflkejhoghaaGreat.Hand
