/- The reference: ref13.Frame. -/
import Derived.Below
import Derived.Deep.Draws
import Derived.Deep.AppendLies
import Derived.Maps.AppendAt
import Derived.OwnWalk
import Derived.Laws.BytesArg
import Derived.Laws.MakeOwn
import Derived.Laws.OwnMore
import Derived.Deep.OwnRows
import Derived.Tactics
import Derived.Lib.ConvBytes
import Derived.Laws.Slices
import Derived.WalkKit
import Derived.KernelRfl
import Derived.RowKit3
import Derived.Deep.LoopGhost
import Derived.Deep.QuietTactic
import Derived.BigQuiet
import Derived.WideLaws
import Derived.Deep.DeepCutAuto
import Derived.Deep.CutBlock
import Derived.Deep.RegionHeld3
import Derived.Laws.Rows
import Derived.Lib.AppendStr
import Derived.ArgAppend
import Derived.Laws.IdiomCopy
import Derived.OrdersHeld
import Derived.Laws.BitsLemmas
import Derived.RowKit
import Derived.Outline
import Derived.Maps.Own
import Derived.Maps.OwnOps
import Derived.Maps.OwnSet
import Derived.Maps.Views
import Derived.Maps.RangeWalk
import Derived.Maps.Ext
import Derived.RangeFuncOwn
import Derived.OneCell
import Derived.Deep.DeepMust
import Derived.Lib.Hide
import Derived.StillTailTactics
import Derived.Laws.AppendOwnNone
import Derived.WalkMore
import Derived.Lib.SlBytesConst
import Derived.WalkLawsBesides
import Derived.Laws.BitsAllLaws
import Derived.Test.YtdabflkejhoghaaGreatHRd
namespace Go.Proofs.YtdabflkejhoghaaGreat.Hand
open Go Go.RowKit Go.Proofs.YtdabflkejhoghaaGreat.HW Go.Proofs.YtdabflkejhoghaaGreatW.PrintLast Go.Proofs.YtdabflkejhoghaaGreat.HW
set_option linter.unusedVariables false
set_option linter.unusedSimpArgs false
set_option maxHeartbeats 1600000 in
set_option maxRecDepth 100000 in
/-- the reference's Frame -/
theorem r13Frame {A : Nat → Prop} (v : Value) (seq : Nat) (b : List UInt8) (w : World) (h : BytesV w A v b) (hl : b.length ≤ 65536) (hs : seq < 18446744073709551616) :
    Calls Tryz.prog 49 #[.int .u64 (seq : Int), v] w fun e w' => ∃ vf, e = .returned (.tuple #[vf, .int .i64 0]) ∧ w'.ownsRow w.heap.size 5 1 vf (frameB seq b).length (bcells (frameB seq b)) ∧ Kp [] w.heap.size w w' := by
  have h := h.low
  obtain ⟨ao, cap, rfl, hc1, hc2, -⟩ := id h
  obtain ⟨m, hm⟩ : ∃ m, m = b.length := ⟨_, rfl⟩
  have hle : b.length = m := hm.symm
  rw [← hm] at h hc1 hl
  have d1 : decide ((65536 : Int) < (m : Int)) = false := decide_eq_false (by omega)
  have d2 : decide (65536 < m) = false := decide_eq_false (by omega)
  obtain ⟨g, hg⟩ : ∃ g, g = w.heap.size := ⟨_, rfl⟩
  have HG := Lib.hid hg
  have HB := Lib.hid h
  have HM := Lib.hid hm
  rw [← hm]
  clear h hm hle
  go_enter Tryz.func49, Tryz.ntmps49
  go_wp2_with fail
  refine (r01Put m 4 w (by omega) (by omega) (by omega)).mono ?_
  rintro e w1 ⟨vf, rfl, hF1, b1⟩
  rw [← HG.out] at hF1
  have K1 : Hid (Kp [] w.heap.size w w1) := Kp.of_below b1 (Nat.le_refl _)
  have HF1 := Lib.hid hF1
  clear hF1 b1
  go_wp2_with fail
  refine (r01Put seq 8 w1 (by omega) (by omega) hs).mono ?_
  rintro e w2 ⟨vs, rfl, hS, b2⟩
  have k12 : Kp [] w1.heap.size w1 w2 := Kp.of_below b2 (Nat.le_refl _)
  have HF2 := Lib.hid (own_kp HF1.out k12 (Nat.le_refl _))
  have K2 := Lib.hid (K1.out.trans (k12.mono (by simp) K1.out.size))
  have HS := Lib.hid hS
  have hz2 : g ≤ w2.heap.size := by rw [HG.out]; exact K2.out.size
  clear hS b2 k12
  go_upto_region 6 with (at_builtin; go_must (refine wpList_appB rfl _ _ rfl g _ _ _ rfl HF2.out rfl (own_bytes HS.out) (by simp [putB_length]) hz2 ?_; intro v3 w3 hF3 hg3))
  have k23 : Kp [] g w2 w3 := kp_grown hg3 (own_ge HF2.out) hz2
  have K3 : Hid (Kp [] w.heap.size w w3) := K2.out.trans (by rw [← HG.out]; exact k23)
  rw [← bcells_app, putB_length, putB_length] at hF3
  have hfr : putB m 4 ++ putB seq 8 = frontB seq b := by unfold frontB; rw [← HM.out]
  rw [hfr] at hF3
  have HF3 := Lib.hid hF3
  have hN3 : Hid (w3.ownsRow w3.heap.size 5 1 (.slice none 0 0) 0 []) := ⟨rfl, .inl ⟨rfl, rfl⟩⟩
  have hz3 : g ≤ w3.heap.size := by rw [HG.out]; exact K3.out.size
  have fl := frontB_length seq b
  clear hF3 hg3 k23 hfr
  go_upto_region 8 with (at_builtin; go_must (refine wpList_appB rfl _ _ rfl w3.heap.size _ 0 [] rfl hN3.out rfl (own_bytes HF3.out) (by omega) (Nat.le_refl _) ?_; intro v4 w4 hA4 hg4))
  have k34 : Kp [] w3.heap.size w3 w4 := kp_grown hg4 (own_ge hN3.out) (Nat.le_refl _)
  rw [List.nil_append, Nat.zero_add, fl] at hA4
  have HA4 := Lib.hid hA4
  have HK34 := Lib.hid k34
  have K4 : Hid (Kp [] w.heap.size w w4) := K3.out.trans (k34.mono (by simp) K3.out.size)
  have hz4 : w3.heap.size ≤ w4.heap.size := k34.size
  have HB4 := Lib.hid (HB.out.kp K4.out (by simp))
  clear hA4 hg4 k34
  go_upto_region 9 with (at_builtin; go_must (refine wpList_appB rfl _ _ rfl w3.heap.size _ _ _ rfl HA4.out rfl HB4.out (by rw [← HM.out]; omega) hz4 ?_; intro v5 w5 hA5 hg5))
  have k45 : Kp [] w3.heap.size w4 w5 := kp_grown hg5 (own_ge HA4.out) hz4
  have HK35 := Lib.hid (HK34.out.trans k45)
  rw [← bcells_app, ← HM.out] at hA5
  have HA5 := Lib.hid hA5
  have hz5 : w3.heap.size ≤ w5.heap.size := HK35.out.size
  have hal : (frontB seq b ++ b).length ≤ 1000000 := by rw [List.length_append, fl, ← HM.out]; omega
  clear hA5 hg5 k45
  go_wp2_with fail
  refine (r13Sum _ (frontB seq b ++ b) w5 (by have := own_bytes HA5.out; exact this) hal).mono ?_
  rintro e w6 ⟨rfl, rfl⟩
  obtain ⟨sm, hsm⟩ : ∃ sm, sm = sumN (frontB seq b ++ b) := ⟨_, rfl⟩
  have hsl : sm < 4294967296 := by rw [hsm]; exact sumN_lt _
  rw [← hsm]
  have HSM := Lib.hid hsm
  clear hsm
  go_wp2_with fail
  refine (r01Put sm 4 w5 (by omega) (by omega) (by omega)).mono ?_
  rintro e w6 ⟨vm, rfl, hM6, b6⟩
  rw [putB_length] at hM6
  have k56 : Kp [] w5.heap.size w5 w6 := Kp.of_below b6 (Nat.le_refl _)
  have HK36 := Lib.hid (HK35.out.trans (k56.mono (by simp) HK35.out.size))
  have HF6 := Lib.hid (own_kp HF3.out HK36.out (Nat.le_refl _))
  have K6 : Hid (Kp [] w.heap.size w w6) := K3.out.trans (HK36.out.mono (by simp) K3.out.size)
  have hz6 : g ≤ w6.heap.size := by rw [HG.out]; exact K6.out.size
  have HM6 := Lib.hid hM6
  clear hM6 b6 k56
  go_upto_region 11 with (at_builtin; go_must (refine wpList_appB rfl _ _ rfl g _ _ _ rfl HF6.out rfl (own_bytes HM6.out) (by rw [putB_length]; omega) hz6 ?_; intro v7 w7 hF7 hg7))
  have k67 : Kp [] g w6 w7 := kp_grown hg7 (own_ge HF6.out) hz6
  have K7 : Hid (Kp [] w.heap.size w w7) := K6.out.trans (by rw [← HG.out]; exact k67)
  rw [← bcells_app, putB_length] at hF7
  have HF7 := Lib.hid hF7
  have HB7 := Lib.hid (HB.out.kp K7.out (by simp))
  have hz7 : g ≤ w7.heap.size := by rw [HG.out]; exact K7.out.size
  clear hF7 hg7 k67
  go_wp2_with (at_builtin; go_must (refine wpList_appB rfl _ _ rfl g _ _ _ rfl HF7.out rfl HB7.out (by rw [← HM.out]; omega) hz7 ?_; intro v8 w8 hF8 hg8))
  have k78 : Kp [] g w7 w8 := kp_grown hg8 (own_ge HF7.out) hz7
  have K8 : Hid (Kp [] w.heap.size w w8) := K7.out.trans (by rw [← HG.out]; exact k78)
  refine bodyPost_ret (v := .tuple #[v8, .int .i64 0]) (by simp [results, Tryz.results49, go_sem]) rfl ?_
  refine ⟨v8, rfl, ?_, K8.out⟩
  rw [← bcells_app, HG.out] at hF8
  have hfe : frontB seq b ++ putB sm 4 ++ b = frameB seq b := by unfold frameB; rw [List.append_assoc, HSM.out]
  rw [hfe] at hF8
  have hfl : (frameB seq b).length = 16 + b.length := frameB_length seq b
  rw [hfl]
  exact hF8
end Go.Proofs.YtdabflkejhoghaaGreat.Hand
