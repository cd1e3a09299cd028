/- fill: Raw, by hand (turned from the printed walk of Text). -/
import Derived.Test.YtjbghpkdehikfaaDoorProg
import Derived.Below
import Derived.Deep.Draws
import Derived.Deep.AppendLies
import Derived.Maps.AppendAt
import Derived.OwnWalk
import Derived.Laws.BytesArg
import Derived.Laws.MakeOwn
import Derived.Laws.OwnMore
import Derived.Deep.OwnRows
import Derived.Tactics
import Derived.Lib.ConvBytes
import Derived.Laws.Slices
import Derived.WalkKit
import Derived.KernelRfl
import Derived.RowKit3
import Derived.Deep.LoopGhost
import Derived.Deep.QuietTactic
import Derived.BigQuiet
import Derived.WideLaws
import Derived.Deep.DeepCutAuto
import Derived.Deep.CutBlock
import Derived.Deep.RegionHeld3
import Derived.Laws.Rows
import Derived.Lib.AppendStr
import Derived.ArgAppend
import Derived.Laws.IdiomCopy
import Derived.OrdersHeld
import Derived.Laws.BitsLemmas
import Derived.RowKit
import Derived.Test.YtjbghpkdehikfaaDoorWWords
import Derived.Test.YtjbghpkdehikfaaDoorWLast
import Derived.Test.YtjbghpkdehikfaaDoorWTab
import Derived.Test.YtjbghpkdehikfaaDoorWFour
import Derived.Test.YtjbghpkdehikfaaDoorWQPut
import Derived.Test.YtjbghpkdehikfaaDoorWApart
import Derived.Test.YtjbghpkdehikfaaDoorWArr
import Derived.Test.YtjbghpkdehikfaaDoorWZeros
import Derived.Test.YtjbghpkdehikfaaDoorWFoot
import Derived.Test.YtjbghpkdehikfaaDoorWKept
import Derived.Test.YtjbghpkdehikfaaDoorWShare
import Derived.Test.YtjbghpkdehikfaaDoorWN
import Derived.Test.YtjbghpkdehikfaaDoorWFootNe
import Derived.Test.YtjbghpkdehikfaaDoorWAt
import Derived.Test.YtjbghpkdehikfaaDoorWEqStruct
import Derived.Test.YtjbghpkdehikfaaDoorWRepsOne
import Derived.Test.YtjbghpkdehikfaaDoorWInv
import Derived.Test.YtjbghpkdehikfaaDoorWInvWords
import Derived.Test.YtjbghpkdehikfaaDoorWGuard
import Derived.Test.YtjbghpkdehikfaaDoorWNEv
import Derived.Test.YtjbghpkdehikfaaDoorWMore
import Derived.Outline
import Derived.Laws.AppendOwn
import Derived.Test.YtjbghpkdehikfaaDoorHEsc
import Derived.Test.YtjbghpkdehikfaaDoorHCon
namespace Go.Proofs.YtjbghpkdehikfaaDoor.Hand
open Go.RowKit Go.Shelf Go.Proofs.YtjbghpkdehikfaaDoorW.PrintWords Go.Proofs.YtjbghpkdehikfaaDoorW.PrintLast Go.Proofs.YtjbghpkdehikfaaDoorW.PrintMore
set_option linter.unusedVariables false
set_option linter.unusedSimpArgs false
def ints (o : List UInt8) : List Int := o.map fun b => (b.toNat : Int)
theorem ints_len (o : List UInt8) : (ints o).length = o.length := by simp [ints]
theorem bytes_C {b : Nat} {l : List UInt8} {W : World} (hl : l.length ≤ 1000000) (hc : ∀ j (hj : j < l.length), W.cell? ⟨b, j, none⟩ = some (.int .u8 (l[j]'hj).toNat)) :
    Kd.C (Kd.int .u8) W (some ⟨b, 0, none⟩) l.length (ints l) := by
  refine ⟨by rw [ints_len], by omega, fun _ => ⟨_, rfl, fun j x hj => ⟨[.int .u8 x], rfl, rfl, fun i u hu => ?_⟩⟩⟩
  have hi : i = 0 := by
    have := (List.getElem?_eq_some_iff.1 hu).1
    simp at this
    omega
  subst hi
  have hj' : j < l.length := by
    have := (List.getElem?_eq_some_iff.1 hj).1
    rwa [ints_len] at this
  have hx : x = ((l[j]'hj').toNat : Int) := by
    unfold ints at hj
    rw [List.getElem?_map, List.getElem?_eq_getElem hj'] at hj
    exact (Option.some.inj hj).symm
  subst hx
  cases hu
  show W.cell? ((⟨b, 0, none⟩ : Addr).add (j * 1 + 0)) = _
  rw [show (⟨b, 0, none⟩ : Addr).add (j * 1 + 0) = ⟨b, j, none⟩ by unfold Addr.add; split <;> simp_all]
  exact hc j hj'
theorem conv_C {w X : World} (hb : Below w.heap.size w X) (s : ByteArray) (hs : s.size ≤ 1000000) : ∃ W c, (convert 9 22 (.string s)).run Tryd.prog X = .ok (.slice (some ⟨X.heap.size, 0, none⟩) (bl s).length c) W ∧
    Kd.C (Kd.int .u8) W (some ⟨X.heap.size, 0, none⟩) (bl s).length (ints (bl s)) ∧ (bl s).length ≤ c ∧ Below w.heap.size w W := by
  refine ⟨_, _, Lib.run_convert_string_bytes X 9 22 5 s Tryd.underlying9 Tryd.underlying22 Tryd.underlying5, bytes_C hs fun j hj => ?_, ?_, hb.trans ⟨rfl, rfl, rfl, ?_, fun k hk => Lib.bytesWorld_at_old _ _ _ _ (Nat.lt_of_lt_of_le hk hb.size)⟩⟩
  · rw [Lib.bytesWorld_cell X 5 s j hj]
    have hj2 : j < s.data.size := by simpa using hj
    simp only [List.getD, Array.getElem?_toList, Array.getElem?_eq_getElem hj2]
    rfl
  · exact grownCap_ge _ _ _ _
  · rw [Lib.bytesWorld_size]; omega
def raw.l0 : Nat → List Int → List ByteArray → ByteArray → Int → Option (ByteArray)
  | 0, _, _, _, _ => none
  | k + 1, x0, x3, x4, x5 => if x5 < (x0.length : Int) then (if x5 < 50 then (if 0 ≤ x5 then (if (x3.length : Int) = 0 then (none) else (if 0 ≤ (Int.tmod (wrap64 (rd x0 x5)) (x3.length : Int)) then (if (Int.tmod (wrap64 (rd x0 x5)) (x3.length : Int)) < (x3.length : Int) then (if x4.size + (rdOf ByteArray.empty x3 (Int.tmod (wrap64 (rd x0 x5)) (x3.length : Int))).size ≤ 9223372036854775807 then (raw.l0 k x0 x3 (x4 ++ (rdOf ByteArray.empty x3 (Int.tmod (wrap64 (rd x0 x5)) (x3.length : Int)))) (wrap64 (x5 + 1))) else (none)) else (none)) else (none))) else (none)) else (some x4)) else (some x4)
def raw.f (k : Nat) (l0 : List Int) : Option (ByteArray) := raw.l0 k l0 (([(⟨#[97]⟩ : ByteArray), (⟨#[117, 115, 101, 114]⟩ : ByteArray), (⟨#[61]⟩ : ByteArray), (⟨#[61]⟩ : ByteArray), (⟨#[38]⟩ : ByteArray), (⟨#[43]⟩ : ByteArray), (⟨#[37, 52, 49]⟩ : ByteArray), (⟨#[37, 50]⟩ : ByteArray), (⟨#[37, 122, 122]⟩ : ByteArray), (⟨#[37, 48, 97]⟩ : ByteArray), (⟨#[112, 97, 115, 115]⟩ : ByteArray), (⟨#[120, 32, 121]⟩ : ByteArray), (⟨#[116, 111, 107, 101, 110, 61, 49]⟩ : ByteArray), (⟨#[38, 97, 61, 50]⟩ : ByteArray), (⟨#[37, 67, 51, 37, 65, 57]⟩ : ByteArray), (⟨#[59]⟩ : ByteArray), (⟨#[37]⟩ : ByteArray)] : List ByteArray)) (⟨#[]⟩ : ByteArray) 0
theorem raw.mono_l : ∀ k, (∀ y0 y1 y2 y3, LeO (raw.l0 k y0 y1 y2 y3) (raw.l0 (k + 1) y0 y1 y2 y3))
  | 0 => fun _ _ _ _ r h => by simp [raw.l0] at h
  | k + 1 => by
    have ih0 := raw.mono_l k
    · intro y0 y1 y2 y3
      unfold raw.l0
      repeat' first
      | (with_reducible exact ih0 _ _ _ _)
      | (with_reducible exact LeO.refl _)
      | (with_reducible exact LeO.none _)
      | (with_reducible refine LeO.ite ?_ ?_)
      | (with_reducible refine LeO.bind ?_ (fun _ => ?_))
      | exact ih0 _ _ _ _
      | exact LeO.none _
      | refine LeO.ite ?_ ?_
      | refine LeO.bind ?_ (fun _ => ?_)
theorem raw.mono : ∀ a0 k, LeO (raw.f k a0) (raw.f (k + 1) a0) := by
  intro a0 k
  have ih0 := raw.mono_l k
  unfold raw.f
  repeat' first
      | (with_reducible exact ih0 _ _ _ _)
      | (with_reducible exact LeO.refl _)
      | (with_reducible exact LeO.none _)
      | (with_reducible refine LeO.ite ?_ ?_)
      | (with_reducible refine LeO.bind ?_ (fun _ => ?_))
      | exact ih0 _ _ _ _
      | exact LeO.none _
      | refine LeO.ite ?_ ?_
      | refine LeO.bind ?_ (fun _ => ?_)
set_option maxHeartbeats 8000000 in
set_option maxRecDepth 100000 in
theorem raw.calls (k : Nat) (A0 : Option Addr) (c0 : Nat) (l0 : List Int) (r : ByteArray) (w : World) (hr0 : Kd.C (Kd.int .u8) w A0 l0.length l0) (hc0 : l0.length ≤ c0) (h : raw.f k l0 = some r) (hrs : r.size ≤ 1000000) :
    Calls Tryd.prog 11 #[.slice A0 l0.length c0] w fun e w' => ∃ A c, e = .returned (.slice A (bl r).length c) ∧ Kd.C (Kd.int .u8) w' A (bl r).length (ints (bl r)) ∧ (bl r).length ≤ c ∧ Below w.heap.size w w' := by
  have HR0 := Aside0.mk hr0
  have HC0 := Aside0.mk hc0
  clear hr0 hc0
  have HB := Aside0.mk (Below.refl w.heap.size w)
  have H : (raw.l0 k l0 (([(⟨#[97]⟩ : ByteArray), (⟨#[117, 115, 101, 114]⟩ : ByteArray), (⟨#[61]⟩ : ByteArray), (⟨#[61]⟩ : ByteArray), (⟨#[38]⟩ : ByteArray), (⟨#[43]⟩ : ByteArray), (⟨#[37, 52, 49]⟩ : ByteArray), (⟨#[37, 50]⟩ : ByteArray), (⟨#[37, 122, 122]⟩ : ByteArray), (⟨#[37, 48, 97]⟩ : ByteArray), (⟨#[112, 97, 115, 115]⟩ : ByteArray), (⟨#[120, 32, 121]⟩ : ByteArray), (⟨#[116, 111, 107, 101, 110, 61, 49]⟩ : ByteArray), (⟨#[38, 97, 61, 50]⟩ : ByteArray), (⟨#[37, 67, 51, 37, 65, 57]⟩ : ByteArray), (⟨#[59]⟩ : ByteArray), (⟨#[37]⟩ : ByteArray)] : List ByteArray)) (⟨#[]⟩ : ByteArray) 0) = some r := h
  clear h
  obtain ⟨y165, hy165⟩ : ∃ y_ : List ByteArray, y_ = (([(⟨#[97]⟩ : ByteArray), (⟨#[117, 115, 101, 114]⟩ : ByteArray), (⟨#[61]⟩ : ByteArray), (⟨#[61]⟩ : ByteArray), (⟨#[38]⟩ : ByteArray), (⟨#[43]⟩ : ByteArray), (⟨#[37, 52, 49]⟩ : ByteArray), (⟨#[37, 50]⟩ : ByteArray), (⟨#[37, 122, 122]⟩ : ByteArray), (⟨#[37, 48, 97]⟩ : ByteArray), (⟨#[112, 97, 115, 115]⟩ : ByteArray), (⟨#[120, 32, 121]⟩ : ByteArray), (⟨#[116, 111, 107, 101, 110, 61, 49]⟩ : ByteArray), (⟨#[38, 97, 61, 50]⟩ : ByteArray), (⟨#[37, 67, 51, 37, 65, 57]⟩ : ByteArray), (⟨#[59]⟩ : ByteArray), (⟨#[37]⟩ : ByteArray)] : List ByteArray)) := ⟨_, rfl⟩
  replace H : (raw.l0 k l0 y165 (⟨#[]⟩ : ByteArray) 0) = some r := by first | (rw [hy165]; with_reducible exact H) | (have H2_ := (Option.bind_some _ _).symm.trans H; rw [hy165]; with_reducible exact H2_) | (have H2_ := (Option.bind_some _ _).symm.trans H; with_reducible exact H2_) | with_reducible exact H | (rw [hy165]; exact H) | exact H
  have Ny165 := Aside0.mk hy165
  clear hy165
  have H' := Aside0.mk H
  clear H
  go_enter Tryd.func11, Tryd.ntmps11
  go_wp2_with (first | ((with_reducible refine gate_dst (N := 6) rfl ?_); refine Kd.R_lit Kd.string _ 9 ?hg (N := 6) ?hd (xs := ([(⟨#[97]⟩ : ByteArray), (⟨#[117, 115, 101, 114]⟩ : ByteArray), (⟨#[61]⟩ : ByteArray), (⟨#[61]⟩ : ByteArray), (⟨#[38]⟩ : ByteArray), (⟨#[43]⟩ : ByteArray), (⟨#[37, 52, 49]⟩ : ByteArray), (⟨#[37, 50]⟩ : ByteArray), (⟨#[37, 122, 122]⟩ : ByteArray), (⟨#[37, 48, 97]⟩ : ByteArray), (⟨#[112, 97, 115, 115]⟩ : ByteArray), (⟨#[120, 32, 121]⟩ : ByteArray), (⟨#[116, 111, 107, 101, 110, 61, 49]⟩ : ByteArray), (⟨#[38, 97, 61, 50]⟩ : ByteArray), (⟨#[37, 67, 51, 37, 65, 57]⟩ : ByteArray), (⟨#[59]⟩ : ByteArray), (⟨#[37]⟩ : ByteArray)] : List ByteArray)) (inner := [.string (⟨#[97]⟩ : ByteArray), .string (⟨#[117, 115, 101, 114]⟩ : ByteArray), .string (⟨#[61]⟩ : ByteArray), .string (⟨#[61]⟩ : ByteArray), .string (⟨#[38]⟩ : ByteArray), .string (⟨#[43]⟩ : ByteArray), .string (⟨#[37, 52, 49]⟩ : ByteArray), .string (⟨#[37, 50]⟩ : ByteArray), .string (⟨#[37, 122, 122]⟩ : ByteArray), .string (⟨#[37, 48, 97]⟩ : ByteArray), .string (⟨#[112, 97, 115, 115]⟩ : ByteArray), .string (⟨#[120, 32, 121]⟩ : ByteArray), .string (⟨#[116, 111, 107, 101, 110, 61, 49]⟩ : ByteArray), .string (⟨#[38, 97, 61, 50]⟩ : ByteArray), .string (⟨#[37, 67, 51, 37, 65, 57]⟩ : ByteArray), .string (⟨#[59]⟩ : ByteArray), .string (⟨#[37]⟩ : ByteArray)]) (ok := fun _ => True) (okp := fun _ => True) ?hr ?hp (fun _ hk => hk) trivial (Below.refl _ _) (Nat.le_refl _) (by simp) ?_; (case hd => rfl); (case hg => rfl); (case hr => first | (go_simp; done) | (go_simp; rfl)); (case hp => exact (Reps.one (show Kd.M Kd.string _ _ _ (⟨#[97]⟩ : ByteArray) [.string (⟨#[97]⟩ : ByteArray)] from rfl) (Reps.one (show Kd.M Kd.string _ _ _ (⟨#[117, 115, 101, 114]⟩ : ByteArray) [.string (⟨#[117, 115, 101, 114]⟩ : ByteArray)] from rfl) (Reps.one (show Kd.M Kd.string _ _ _ (⟨#[61]⟩ : ByteArray) [.string (⟨#[61]⟩ : ByteArray)] from rfl) (Reps.one (show Kd.M Kd.string _ _ _ (⟨#[61]⟩ : ByteArray) [.string (⟨#[61]⟩ : ByteArray)] from rfl) (Reps.one (show Kd.M Kd.string _ _ _ (⟨#[38]⟩ : ByteArray) [.string (⟨#[38]⟩ : ByteArray)] from rfl) (Reps.one (show Kd.M Kd.string _ _ _ (⟨#[43]⟩ : ByteArray) [.string (⟨#[43]⟩ : ByteArray)] from rfl) (Reps.one (show Kd.M Kd.string _ _ _ (⟨#[37, 52, 49]⟩ : ByteArray) [.string (⟨#[37, 52, 49]⟩ : ByteArray)] from rfl) (Reps.one (show Kd.M Kd.string _ _ _ (⟨#[37, 50]⟩ : ByteArray) [.string (⟨#[37, 50]⟩ : ByteArray)] from rfl) (Reps.one (show Kd.M Kd.string _ _ _ (⟨#[37, 122, 122]⟩ : ByteArray) [.string (⟨#[37, 122, 122]⟩ : ByteArray)] from rfl) (Reps.one (show Kd.M Kd.string _ _ _ (⟨#[37, 48, 97]⟩ : ByteArray) [.string (⟨#[37, 48, 97]⟩ : ByteArray)] from rfl) (Reps.one (show Kd.M Kd.string _ _ _ (⟨#[112, 97, 115, 115]⟩ : ByteArray) [.string (⟨#[112, 97, 115, 115]⟩ : ByteArray)] from rfl) (Reps.one (show Kd.M Kd.string _ _ _ (⟨#[120, 32, 121]⟩ : ByteArray) [.string (⟨#[120, 32, 121]⟩ : ByteArray)] from rfl) (Reps.one (show Kd.M Kd.string _ _ _ (⟨#[116, 111, 107, 101, 110, 61, 49]⟩ : ByteArray) [.string (⟨#[116, 111, 107, 101, 110, 61, 49]⟩ : ByteArray)] from rfl) (Reps.one (show Kd.M Kd.string _ _ _ (⟨#[38, 97, 61, 50]⟩ : ByteArray) [.string (⟨#[38, 97, 61, 50]⟩ : ByteArray)] from rfl) (Reps.one (show Kd.M Kd.string _ _ _ (⟨#[37, 67, 51, 37, 65, 57]⟩ : ByteArray) [.string (⟨#[37, 67, 51, 37, 65, 57]⟩ : ByteArray)] from rfl) (Reps.one (show Kd.M Kd.string _ _ _ (⟨#[59]⟩ : ByteArray) [.string (⟨#[59]⟩ : ByteArray)] from rfl) (Reps.one (show Kd.M Kd.string _ _ _ (⟨#[37]⟩ : ByteArray) [.string (⟨#[37]⟩ : ByteArray)] from rfl) (Reps.none _ _))))))))))))))))))); intro v166 w2 ho3 hb hg_ hnew_; clear hg_ hnew_; (first | rw [← Ny165.out] at ho3 | (simp only [Int.reduceToNat] at ho3; rw [← Ny165.out] at ho3)); have n0_ := Aside0.mk (Kd.R_lower ho3 (below_size (by repeat (first | (with_reducible first | exact HB.out | apply below_alloc | apply pw_below_drewN | apply below_drew1) | exact HB.out)))); have n1_ := Aside0.mk (below_step (by repeat (first | (with_reducible first | exact HB.out | apply below_alloc | apply pw_below_drewN | apply below_drew1) | exact HB.out)) hb); clear HB; have HO167 := n0_; have HB := n1_; clear n0_ n1_; clear hb ho3))
  go_loopg [4, 5] k (fun kq v4 v5 w' => ∃ (x4_1 : ByteArray) (x5_1 : Int), v4 = .string x4_1 ∧ v5 = .int .i64 x5_1 ∧ Aside0 (raw.l0 kq l0 y165 x4_1 x5_1 = some r) ∧ Aside0 (kq ≤ k) ∧ Aside0 (Kd.R Kd.string 9 w' w.heap.size (fun _ => True) v166 y165) ∧ Aside0 (Below w.heap.size w w'))
  case atStart => exact ⟨((⟨#[]⟩ : ByteArray)), (0), (by first | rfl | (simp; done) | (simp [*]; done)), (by first | rfl | (simp; done) | (simp [*]; done)), H', ⟨Nat.le_refl _⟩, ⟨by (with_reducible repeat (first | apply Kd.R_alloc | apply Kd.R_drewN | apply Kd.R_drew)); exact HO167.out⟩, ⟨by repeat (first | (with_reducible first | exact HB.out | apply below_alloc | apply pw_below_drewN | apply below_drew1) | exact HB.out)⟩⟩
  case round =>
    clear H'
    try clear c1
    try clear p2
    obtain ⟨x4_1, x5_1, rfl, rfl, HA, HK1, HO_3, HB⟩ := hrel
    cases gk with
    | zero => exact absurd HA.out (by simp [raw.l0])
    | succ k1 =>
      have H := HA.out
      clear HA
      simp only [raw.l0] at H
      by_cases c4 : x5_1 < (l0.length : Int)
      · rw [if_pos c4] at H
        have c4b0 : decide (x5_1 < (l0.length : Int)) = true := decide_eq_true c4
        clear c4
        by_cases c5 : x5_1 < 50
        · rw [if_pos c5] at H
          have c5b0 : decide (x5_1 < 50) = true := decide_eq_true c5
          clear c5
          by_cases c6 : 0 ≤ x5_1
          · rw [if_pos c6] at H
            have c6b0 : decide (0 ≤ x5_1) = true := decide_eq_true c6
            clear c6
            by_cases c7 : (y165.length : Int) = 0
            · rw [if_pos c7] at H
              exact absurd H (by simp)
            · rw [if_neg c7] at H
              have c7b0 : ((y165.length : Int) == 0) = false := beq_eq_false_iff_ne.mpr c7
              have c7b1 : ((y165.length : Int) != 0) = true := bne_iff_ne.mpr c7
              have c7b2 : ¬ (y165 = []) := fun h_ => c7 (by rw [h_]; rfl)
              obtain ⟨ji8, hji8⟩ : ∃ j_ : Int, (Int.tmod (wrap64 (rd l0 x5_1)) (y165.length : Int)) = j_ := ⟨_, rfl⟩
              replace H : (if 0 ≤ (ji8) then (if (ji8) < (y165.length : Int) then (if x4_1.size + (rdOf ByteArray.empty y165 (ji8)).size ≤ 9223372036854775807 then (raw.l0 k1 l0 y165 (x4_1 ++ (rdOf ByteArray.empty y165 (ji8))) (wrap64 (x5_1 + 1))) else (none)) else (none)) else (none)) = some r := by first | (rw [hji8] at H; exact H) | (simp only [hji8] at H ⊢; exact H)
              by_cases c9 : 0 ≤ (ji8)
              · rw [if_pos c9] at H
                have c9b0 : decide (0 ≤ (ji8)) = true := decide_eq_true c9
                clear c9
                by_cases c10 : (ji8) < (y165.length : Int)
                · rw [if_pos c10] at H
                  have c10b0 : decide ((ji8) < (y165.length : Int)) = true := decide_eq_true c10
                  clear c10
                  by_cases c11 : x4_1.size + (rdOf ByteArray.empty y165 (ji8)).size ≤ 9223372036854775807
                  · rw [if_pos c11] at H
                    have c11b0 := eq_true c11
                    have c11b1 : decide (x4_1.size + (rdOf ByteArray.empty y165 (ji8)).size ≤ 9223372036854775807) = true := decide_eq_true c11
                    try have c11b2 : (9223372036854775807 < x4_1.size + (rdOf ByteArray.empty y165 (ji8)).size) = False := eq_false (Nat.not_lt.2 c11)
                    have H' := Aside0.mk H
                    clear H
                    have p168 : 0 ≤ (x5_1 : Int) := of_decide_eq_true (by first | (with_reducible assumption) | assumption)
                    have q168 : x5_1 < (l0.length : Int) := of_decide_eq_true (by first | (with_reducible assumption) | assumption)
                    obtain ⟨ad168, e168, hx168_0⟩ := Kd.at_int HR0.out x5_1 p168 q168
                    cases e168
                    replace hx168_0 := (HB.out.cell (World.block_lt_of_cell? w _ hx168_0)).trans hx168_0
                    replace p168 := eq_true p168
                    replace q168 := eq_true q168
                    obtain ⟨Ao12, co12, eo12⟩ := Kd.R_slice HO_3.out
                    subst eo12
                    have p169 : 0 ≤ ((ji8) : Int) := of_decide_eq_true (by first | (with_reducible assumption) | assumption)
                    have q169 : (ji8) < (y165.length : Int) := of_decide_eq_true (by first | (with_reducible assumption) | assumption)
                    obtain ⟨ad169, e169, hx169_0⟩ := Kd.at_string (Kd.R_reads' HO_3.out).2.2 (ji8) p169 q169
                    cases e169
                    replace p169 := eq_true p169
                    replace q169 := eq_true q169
                    go_wp2
                    go_roundg k1
                    case measure => have := HK1.out; omega
                    case rel => exact ⟨(x4_1 ++ (rdOf ByteArray.empty y165 (ji8))), (wrap64 (x5_1 + 1)), (by first | rfl | (simp; done) | (simp only [← hji8] <;> (first | rfl | simp)) | (simp [*]; done)), (by first | rfl | (simp; done) | (simp [*]; done)), H', ⟨by have := HK1.out; omega⟩, ⟨by (with_reducible repeat (first | apply Kd.R_alloc | apply Kd.R_drewN | apply Kd.R_drew)); exact HO_3.out⟩, ⟨by repeat (first | (with_reducible first | exact HB.out | apply below_alloc | apply pw_below_drewN | apply below_drew1) | exact HB.out)⟩⟩
                  · rw [if_neg c11] at H
                    exact absurd H (by simp)
                · rw [if_neg c10] at H
                  exact absurd H (by simp)
              · rw [if_neg c9] at H
                exact absurd H (by simp)
          · rw [if_neg c6] at H
            exact absurd H (by simp)
        · rw [if_neg c5] at H
          have c5b0 : decide (x5_1 < 50) = false := decide_eq_false c5
          clear c5
          obtain rfl := Option.some.inj H
          obtain ⟨W2, d2, hrun2, hc2, hd2, hb2⟩ := conv_C HB.out x4_1 hrs
          go_wp2
          go_ret
          exact ⟨_, _, rfl, hc2, hd2, hb2⟩
      · rw [if_neg c4] at H
        have c4b0 : decide (x5_1 < (l0.length : Int)) = false := decide_eq_false c4
        clear c4
        obtain rfl := Option.some.inj H
        obtain ⟨W2, d2, hrun2, hc2, hd2, hb2⟩ := conv_C HB.out x4_1 hrs
        go_wp2
        go_ret
        exact ⟨_, _, rfl, hc2, hd2, hb2⟩


end Go.Proofs.YtjbghpkdehikfaaDoor.Hand
