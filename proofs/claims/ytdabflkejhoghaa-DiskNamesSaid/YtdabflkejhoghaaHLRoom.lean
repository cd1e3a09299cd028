/- DiskRoom: the walk. -/
import Derived.Below
import Derived.Deep.Draws
import Derived.Deep.AppendLies
import Derived.Maps.AppendAt
import Derived.OwnWalk
import Derived.Laws.BytesArg
import Derived.Laws.MakeOwn
import Derived.Laws.OwnMore
import Derived.Deep.OwnRows
import Derived.Tactics
import Derived.Lib.ConvBytes
import Derived.Laws.Slices
import Derived.WalkKit
import Derived.KernelRfl
import Derived.RowKit3
import Derived.Deep.LoopGhost
import Derived.Deep.QuietTactic
import Derived.BigQuiet
import Derived.WideLaws
import Derived.Deep.DeepCutAuto
import Derived.Deep.CutBlock
import Derived.Deep.RegionHeld3
import Derived.Laws.Rows
import Derived.Lib.AppendStr
import Derived.ArgAppend
import Derived.Laws.IdiomCopy
import Derived.OrdersHeld
import Derived.Laws.BitsLemmas
import Derived.RowKit
import Derived.Outline
import Derived.Maps.Own
import Derived.Maps.OwnOps
import Derived.Maps.OwnSet
import Derived.Maps.Views
import Derived.Maps.RangeWalk
import Derived.Maps.Ext
import Derived.RangeFuncOwn
import Derived.OneCell
import Derived.Deep.DeepMust
import Derived.Lib.Hide
import Derived.StillTailTactics
import Derived.Laws.AppendOwnNone
import Derived.WalkMore
import Derived.Lib.SlBytesConst
import Derived.WalkLawsBesides
import Derived.Test.YtdabflkejhoghaaHLMoves
namespace Go.Proofs.Ytdabflkejhoghaa.Hand
open Go Go.RowKit Go.Maps Go.WideMaps
set_option linter.unusedVariables false
set_option linter.unusedSimpArgs false
def EE (i : Nat) : Dk := ⟨(List.range (min i 8)).map (fun j => ⟨[102, 97 + UInt8.ofNat j], [], 0⟩), 10, none, false⟩
theorem ee_append : ∀ i, i < 12 → (EE i).append [102, 97 + UInt8.ofNat i] [] = (EE (i + 1), decide (i < 8)) := by
  intro i hi
  match i, hi with
  | 0, _ => rfl
  | 1, _ => rfl
  | 2, _ => rfl
  | 3, _ => rfl
  | 4, _ => rfl
  | 5, _ => rfl
  | 6, _ => rfl
  | 7, _ => rfl
  | 8, _ => rfl
  | 9, _ => rfl
  | 10, _ => rfl
  | 11, _ => rfl
theorem letter {j : Nat} (h : j < 26) : (((97 + UInt8.ofNat j : UInt8)).toNat : Int) = 97 + (j : Int) := by
  have : (97 + UInt8.ofNat j : UInt8).toNat = 97 + j := by
    rw [UInt8.toNat_add, UInt8.toNat_ofNat']
    show (97 + j % 2 ^ 8) % 2 ^ 8 = 97 + j
    omega
  omega
theorem letter_conv {j : Nat} (h : j < 26) (w : World) (T : TypeId) : (convert 22 9 (.slice (some ⟨w.heap.size, 0, none⟩) 1 1)).run Try.prog (w.alloc (.cells #[.int .u8 (97 + (j : Int))] T)) = .ok (.string ⟨[97 + UInt8.ofNat j].toArray⟩) (w.alloc (.cells #[.int .u8 (97 + (j : Int))] T)) :=
  conv_bytes (b := [97 + UInt8.ofNat j]) (A := fun _ => True) (BytesV.cells (b := [97 + UInt8.ofNat j]) (World.alloc_heap_new w _) trivial (fun i hi => by
    match i, hi with
    | 0, _ => simp only [List.getElem_cons_zero, letter h]; rfl) (Nat.le_refl _) (by decide))
theorem letter_add (j : Nat) : ({ data := #[102] } ++ ⟨[97 + UInt8.ofNat j].toArray⟩ : ByteArray) = ⟨[102, 97 + UInt8.ofNat j].toArray⟩ := by apply ByteArray.ext; simp
theorem u16_nat {a : Int} (h : (Lit.int .u16 a).wf = true) : ∃ n : Nat, n ≤ 65535 ∧ a = n := by
  have hr : 0 ≤ a ∧ a ≤ 65535 := by simpa [Lit.wf, IntKind.min, IntKind.max, IntKind.bits, IntKind.signed] using h
  exact ⟨a.toNat, by omega, by omega⟩
theorem room_new (m : Nat) (h : m ≤ 1048576) : Dk.new (m : Int) = emp m none := by
  unfold Dk.new emp
  have : (max 0 (min (m : Int) 1048576)).toNat = m := by omega
  rw [this]
theorem emp_refuse {R : Nat} {nm c : List UInt8} {f : Option Nat} (hr : R < c.length) : (emp R f).append nm c = (emp R f, false) := by
  refine append_false ?_
  unfold Dk.refuses
  have hu : used (emp R f).files = 0 := by simp [emp, used]
  have hR : (emp R f).room = R := rfl
  rw [hu, hR, decide_eq_true (by omega)]
  simp
theorem room_law (m k : Nat) (x : List UInt8) (hx : x.length = k) : ∃ d1, (emp m none).append [120] x = (d1, decide (k ≤ m)) ∧ (k ≤ m → d1.drop [120] = (emp m none, true)) ∧ (¬ k ≤ m → d1 = emp m none) := by
  by_cases h : k ≤ m
  · have e := emp_append (R := m) (nm := [120]) (c := x) (f := none) (by rfl) (by omega)
    have hbf : burnF none x.length = x.length := rfl
    rw [hbf, decide_eq_false (show ¬ x.length < x.length by omega), decide_eq_true rfl] at e
    exact ⟨_, by rw [decide_eq_true h]; exact e, fun _ => one_drop, fun hn => absurd h hn⟩
  · exact ⟨_, by rw [decide_eq_false h]; exact emp_refuse (by omega), fun hn => absurd hn h, fun _ => rfl⟩
theorem room_law2 (m : Nat) (x : List UInt8) (hx : x.length = m) : ((emp m none).append [121] x).2 = true := by
  have e := emp_append (R := m) (nm := [121]) (c := x) (f := none) (by rfl) (by omega)
  have hbf : burnF none x.length = x.length := rfl
  rw [hbf, decide_eq_true rfl] at e
  rw [e]
set_option maxHeartbeats 4000000 in
set_option maxRecDepth 100000 in
theorem room_all (ro n fi : Nat) (w : World) (h1 : ro ≤ 65535) (h2 : n ≤ 65535) (h3 : fi ≤ 255) :
    Calls Try.prog 10 #[.int .u16 (ro : Int), .int .u16 (n : Int), .int .u8 (fi : Int)] w fun e w' => e = .returned (.bool true) ∧ Kp [] w.heap.size w w' := by
  obtain ⟨M, hM⟩ : ∃ M, M = ro % 3000 := ⟨_, rfl⟩
  obtain ⟨k, hk⟩ : ∃ k, k = n % 3000 := ⟨_, rfl⟩
  obtain ⟨f, hf⟩ : ∃ f, f = fi % 12 := ⟨_, rfl⟩
  have hM3 : M < 3000 := by omega
  have hk3 : k < 3000 := by omega
  have hf3 : f < 12 := by omega
  have HM := Lib.hid hM; have HK := Lib.hid hk; have HF := Lib.hid hf
  clear hM hk hf
  obtain ⟨A, hA⟩ : ∃ A : Nat → Prop, A = fun k => w.heap.size + 1 < k := ⟨_, rfl⟩
  have hA1 : ∀ k, w.heap.size + 1 < k → A k := fun k hk => by rw [hA]; exact hk
  have hA2 : ¬ A w.heap.size ∧ ¬ A (w.heap.size + 1) := by rw [hA]; exact ⟨by omega, by omega⟩
  clear hA
  obtain ⟨d1, e1, e2, e3⟩ := room_law M k (List.replicate k 0) (by simp)
  have e4 := room_law2 M (List.replicate M 0) (by simp)
  have e0 := room_new M (by omega)
  have E0 := Lib.hid e0; have E1 := Lib.hid e1; have E2 := Lib.hid e2; have E3 := Lib.hid e3; have E4 := Lib.hid e4
  clear e0 e1 e2 e3 e4
  go_enter Try.func10, Try.ntmps10
  go_upto_region 1 with fail
  go_cut [7] (fun m wx => m = .int .i64 (M : Int) ∧ w = wx)
  case first =>
    go_wp2
    go_meet
    exact ⟨vint (by have := HM.out; omega), rfl⟩
  case rest =>
    obtain ⟨rfl, rfl⟩ := hcut
    go_upto_region 2 with fail
    go_cut [8] (fun m wx => m = .int .i64 (k : Int) ∧ w = wx)
    case first =>
      go_wp2
      go_meet
      exact ⟨vint (by have := HK.out; omega), rfl⟩
    case rest =>
      obtain ⟨rfl, rfl⟩ := hcut
      go_wp2_with fail
      refine (dNew A (M : Int) _ (by omega) hA2).mono ?_
      rintro e w1 ⟨rfl, h1, k1⟩
      rw [E0.out] at h1
      go_wp2_with (at_make; go_must (refine wpList_makeB rfl _ _ rfl _ _ _ _ k rfl rfl rfl rfl (by omega) ?_; intro w2 ho2 hk2))
      have K2 := k1.trans (hk2.shed (by simp) k1.size)
      have h2 := h1.kp_ge hk2
      have hz2 : BytesV w2 (fun k => k ≠ w.heap.size + 1) (.slice (some ⟨w1.heap.size, 0, none⟩) k k) (List.replicate k 0) := BytesV.own ho2 (fun k hk => by have := h1.lt; omega)
      have hz2' : BytesV w2 (fun k => k ≠ w.heap.size + 1) (.slice (some ⟨w1.heap.size, 0, none⟩) k k) (List.replicate k 0) := hz2
      refine (dAppend A _ _ _ [120] (List.replicate k 0) _ _ _ h2 (by decide) hz2 (by simp) (by simp; omega) (fun k hk => hA1 k (by have := h2.lt; omega))).mono ?_
      rintro e w3 ⟨rfl, h3, k3⟩
      rw [E1.out] at h3 ⊢
      have K3 := K2.trans (k3.shed (by simp) K2.size)
      go_upto_region 5 with fail
      go_cut [10, 11] (fun q0 q wx => q0 = .bool (decide (k ≤ M)) ∧ q = .bool true ∧ Hid (IsDisk wx A (w.heap.size + 1) w.heap.size (emp M none) ∧ Kp [] w.heap.size w wx))
      case first =>
        by_cases hkM : k ≤ M
        · have hd : decide (k ≤ M) = true := decide_eq_true hkM
          have e2 := E2.out hkM
          go_wp2_with fail
          refine (dDrop A _ _ _ [120] _ h3 (by decide)).mono ?_
          rintro e w4 ⟨rfl, h4, k4⟩
          rw [e2] at h4 ⊢
          have H4 : Hid (IsDisk w4 A (w.heap.size + 1) w.heap.size (emp M none) ∧ Kp [] w.heap.size w w4) := ⟨h4, K3.trans (k4.shed (by simp) K3.size)⟩
          clear h4 e2
          go_wp2
          go_meet
          exact ⟨by rw [hd], rfl, H4⟩
        · have hd : decide (k ≤ M) = false := decide_eq_false hkM
          have e3 := E3.out hkM
          rw [e3] at h3
          have H3 : Hid (IsDisk w3 A (w.heap.size + 1) w.heap.size (emp M none) ∧ Kp [] w.heap.size w w3) := ⟨h3, K3⟩
          clear h3 e3
          go_wp2
          go_meet
          exact ⟨by rw [hd], rfl, H3⟩
      case rest =>
        obtain ⟨rfl, rfl, hW⟩ := hcut
        obtain ⟨h4, K4⟩ := hW.out
        clear hW h3
        go_wp2_with (at_make; go_must (refine wpList_makeB rfl _ _ rfl _ _ _ _ M rfl rfl rfl rfl (by omega) ?_; intro w5 ho5 hk5))
        have K5 := K4.trans (hk5.shed (by simp) K4.size)
        have h5 := h4.kp_ge hk5
        have hz5 : BytesV w5 (fun k => k ≠ w.heap.size + 1) (.slice (some ⟨wc.heap.size, 0, none⟩) M M) (List.replicate M 0) := BytesV.own ho5 (fun k hk => by have := h4.lt; omega)
        refine (dAppend A _ _ _ [121] (List.replicate M 0) _ _ _ h5 (by decide) hz5 (by simp) (by simp; omega) (fun k hk => hA1 k (by have := h5.lt; omega))).mono ?_
        rintro e w6 ⟨rfl, h6, k6⟩
        rw [E4.out]
        have K6 := K5.trans (k6.shed (by simp) K5.size)
        obtain ⟨B, hB⟩ : ∃ B : Nat → Prop, B = fun k => w6.heap.size + 1 < k := ⟨_, rfl⟩
        have hB1 : ∀ k, w6.heap.size + 1 < k → B k := fun k hk => by rw [hB]; exact hk
        have hB2 : ¬ B w6.heap.size ∧ ¬ B (w6.heap.size + 1) := by rw [hB]; exact ⟨by omega, by omega⟩
        clear hB
        go_wp2_with fail
        refine (dNew B 10 _ (by omega) hB2).mono ?_
        rintro e w7 ⟨rfl, h7, k7⟩
        have K7 := K6.trans (k7.shed (by simp) K6.size)
        have hz6 := K6.size
        go_upto_region 8 with fail
        go_cut [14] (fun m wx => m = .int .i64 (f : Int) ∧ w7 = wx)
        case first =>
          go_wp2
          go_meet
          exact ⟨vint (by have := HF.out; omega), rfl⟩
        case rest =>
          obtain ⟨rfl, rfl⟩ := hcut
          have H7 : Hid (IsDisk w7 B (w6.heap.size + 1) w6.heap.size (EE 0) ∧ Kp [] w.heap.size w w7) := ⟨h7, K7⟩
          clear h7 h6 h5 h4 ho5 hz5 ho2 hz2 hz2' h2 h1
          go_wp2
          go_loopw [15, 16] (fun s i wr => ∃ j : Nat, j ≤ f ∧ s = .int .i64 ((min j 8 : Nat) : Int) ∧ i = .int .i64 (j : Int) ∧ Hid (IsDisk wr B (w6.heap.size + 1) w6.heap.size (EE j) ∧ Kp [] w.heap.size w wr)) (fun _ i _ => f - (intOf i).toNat)
          case atStart => exact ⟨0, by omega, rfl, rfl, H7⟩
          case round =>
            obtain ⟨j, hj, rfl, rfl, HI⟩ := hrel
            by_cases hlt : j < f
            · have hcv := letter_conv (j := j) (by omega) wr 5
              have had := letter_add j
              have hE := ee_append j (by omega)
              have HEE := Lib.hid hE
              clear hE
              have hI1 := HI.out.1
              have hI2 := hI1.kp_ge ((Kp.refl _ _ _).alloc (Nat.le_refl _) (.cells #[.int .u8 (97 + (j : Int))] 5))
              have hzz : w6.heap.size + 1 < wr.heap.size := hI1.lt.1
              go_wp2_with fail
              refine (dAppend B _ _ _ [102, 97 + UInt8.ofNat j] [] (fun _ => False) _ _ hI2 (by simp [maxLen]) (BytesV.nil _ _) (by simp) (by decide) (fun k hk => hB1 k (by simp at hk; omega))).mono ?_
              rintro e w8 ⟨rfl, h8, k8⟩
              rw [HEE.out] at h8 ⊢
              have K8 := (HI.out.2.alloc HI.out.2.size (.cells #[.int .u8 (97 + (j : Int))] 5)).trans (k8.shed (B' := w.heap.size) (by simp; omega) (by have := HI.out.2.size; simp; omega))
              have H8 : Hid (IsDisk w8 B (w6.heap.size + 1) w6.heap.size (EE (j + 1)) ∧ Kp [] w.heap.size w w8) := ⟨h8, K8⟩
              clear h8 hI1 hI2 hcv had k8 K8
              by_cases hj8 : j < 8
              · have hd : decide (j < 8) = true := decide_eq_true hj8
                have e1 : min j 8 = j := by omega
                have e2 : min (j + 1) 8 = j + 1 := by omega
                go_wp2
                go_roundw
                case rel => exact ⟨j + 1, by omega, vint (by omega), by go_num, H8⟩
                case measure => simp [intOf]; omega
              · have hd : decide (j < 8) = false := decide_eq_false hj8
                go_wp2
                go_roundw
                case rel => exact ⟨j + 1, by omega, vint (by omega), by go_num, H8⟩
                case measure => simp [intOf]; omega
            · have hjf : j = f := by omega
              subst hjf
              obtain ⟨h8, K8⟩ := HI.out
              have hflen : (EE j).files.length = min j 8 := by simp [EE]
              have hm8 : min (j : Int) 8 = ((min j 8 : Nat) : Int) := by omega
              go_wp2_with fail
              refine (dCrash_nil 1 _).mono ?_
              rintro e w9 ⟨rfl, rfl⟩
              go_wp2_with fail
              refine (dFuse_nil 1 _).mono ?_
              rintro e w9 ⟨rfl, rfl⟩
              go_wp2_with fail
              refine (lknown _).mono ?_
              rintro e w9 ⟨rfl, k9⟩
              have K9 := K8.trans (k9.mono (by simp) K8.size)
              have h9 := h8.kp_ge k9
              go_wp2_with fail
              refine (dNames B _ _ _ _ h9).mono ?_
              rintro e w10 ⟨v, rfl, ho10, k10⟩
              have K10 := K9.trans (k10.mono (by simp) K9.size)
              obtain ⟨so5, n5, sc5, rfl, hn5⟩ := own_shape ho10
              have hn50 : n5 = min j 8 := hn5.out.trans hflen
              subst hn50
              clear ho10 hn5
              go_wp2_with fail
              refine (dAppend_nil [97] _ _).mono ?_
              rintro e w11 ⟨rfl, nn, rfl⟩
              have K11 := K10.drew nn
              go_wp2_with fail
              refine (dSync_nil [97] _).mono ?_
              rintro e w12 ⟨rfl, rfl⟩
              go_wp2_with fail
              refine (dDrop_nil [97] _).mono ?_
              rintro e w12 ⟨rfl, rfl⟩
              go_wp2_with fail
              refine (dRename_nil [97] [98] _).mono ?_
              rintro e w12 ⟨rfl, rfl⟩
              go_wp2_with fail
              refine (dUsed_nil _).mono ?_
              rintro e w12 ⟨rfl, rfl⟩
              go_wp2_with fail
              refine (dNames_nil _).mono ?_
              rintro e w12 ⟨rfl, rfl⟩
              go_wp2_with fail
              refine (dDead_nil _).mono ?_
              rintro e w12 ⟨rfl, rfl⟩
              go_wp2_with fail
              go_ret
              exact ⟨rfl, K11⟩
theorem diskRoom_row (a0 a1 a2 : Int) (w : World) (w0 : (Lit.int .u16 a0).wf = true) (w1 : (Lit.int .u16 a1).wf = true) (w2 : (Lit.int .u8 a2).wf = true) :
    Calls Try.prog 10 #[.int .u16 a0, .int .u16 a1, .int .u8 a2] w fun e w' => e = .returned (.bool true) ∧ Below w.heap.size w w' := by
  obtain ⟨ro, h1, rfl⟩ := u16_nat w0
  obtain ⟨n, h2, rfl⟩ := u16_nat w1
  obtain ⟨fi, h3, rfl⟩ := u8_nat w2
  exact (room_all ro n fi w h1 h2 h3).mono fun e w' ⟨h1, h2⟩ => ⟨h1, h2.below⟩
end Go.Proofs.Ytdabflkejhoghaa.Hand
