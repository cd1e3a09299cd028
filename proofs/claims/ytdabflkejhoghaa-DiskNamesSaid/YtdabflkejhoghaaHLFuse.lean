/- DiskFuse: the walk. -/
import Derived.Below
import Derived.Deep.Draws
import Derived.Deep.AppendLies
import Derived.Maps.AppendAt
import Derived.OwnWalk
import Derived.Laws.BytesArg
import Derived.Laws.MakeOwn
import Derived.Laws.OwnMore
import Derived.Deep.OwnRows
import Derived.Tactics
import Derived.Lib.ConvBytes
import Derived.Laws.Slices
import Derived.WalkKit
import Derived.KernelRfl
import Derived.RowKit3
import Derived.Deep.LoopGhost
import Derived.Deep.QuietTactic
import Derived.BigQuiet
import Derived.WideLaws
import Derived.Deep.DeepCutAuto
import Derived.Deep.CutBlock
import Derived.Deep.RegionHeld3
import Derived.Laws.Rows
import Derived.Lib.AppendStr
import Derived.ArgAppend
import Derived.Laws.IdiomCopy
import Derived.OrdersHeld
import Derived.Laws.BitsLemmas
import Derived.RowKit
import Derived.Outline
import Derived.Maps.Own
import Derived.Maps.OwnOps
import Derived.Maps.OwnSet
import Derived.Maps.Views
import Derived.Maps.RangeWalk
import Derived.Maps.Ext
import Derived.RangeFuncOwn
import Derived.OneCell
import Derived.Deep.DeepMust
import Derived.Lib.Hide
import Derived.StillTailTactics
import Derived.Laws.AppendOwnNone
import Derived.WalkMore
import Derived.Lib.SlBytesConst
import Derived.WalkLawsBesides
import Derived.Test.YtdabflkejhoghaaHLLasts
namespace Go.Proofs.Ytdabflkejhoghaa.Hand
open Go Go.RowKit Go.Maps Go.WideMaps
set_option linter.unusedVariables false
set_option linter.unusedSimpArgs false
theorem made_zeros (n : Nat) : (madeCells (Value.int .u8 0).cells (n * 1)).toList = bcells (List.replicate n 0) := by
  unfold madeCells bcells
  apply List.ext_getElem
  · simp
  · intro i h1 h2
    simp [Value.cells, Nat.mod_one]
/-- make([]byte, n) -/
theorem wpList_makeB {w : World} {ops : Array Oper} {rest : List Oper} {o : Oper} {a : Act} {Q : Exit → Act → World → Prop} (hg : o.guard = none) (l c : Operand) (hop : o.op = Op.makeSlice 22 l c) (kl kc : IntKind) (L C : Int) (n : Nat) (hl : a.eval l = .int kl L) (hc : a.eval c = .int kc C)
    (hL : L = (n : Int)) (hC : C = (n : Int)) (hn : n ≤ 140737488355328)
    (hK : ∀ w', w'.ownsRow w.heap.size 5 1 (.slice (some ⟨w.heap.size, 0, none⟩) n n) n (bcells (List.replicate n 0)) → Kp [] w.heap.size w w' → wpList Try.prog ops Q rest (a.put o.dst (.slice (some ⟨w.heap.size, 0, none⟩) n n)) w') : wpList Try.prog ops Q (o :: rest) a w := by
  obtain ⟨i0, hi, hz0, hz1, hz2⟩ := info_parts infoByte
  exact wpList_make_full w hg l c 22 hop w.heap.size 5 i0 (.int .u8 0) 1 Try.underlying22 hi hz0 hz1 kl kc L C n hl hc hL hC (by rw [hz2]; omega) (by unfold maxLen; omega) (Nat.le_refl _) (fun w' h1 h2 => hK w' (by rw [← made_zeros]; exact h1) (kp_grown h2 (by simp) (Nat.le_refl _)))
theorem IsDisk.narrow {w : World} {A : Nat → Prop} {p mb : Nat} {d : Dk} (h : IsDisk w A p mb d) : IsDisk w (fun k => A k ∧ k < w.heap.size) p mb d :=
  h.mono (Nat.le_refl _) rfl rfl (fun k ha hl => ⟨⟨ha, hl⟩, rfl⟩) ⟨fun x => h.apart.2.1 x.1, fun x => h.apart.2.2 x.1⟩
def emp (R : Nat) (f : Option Nat) : Dk := ⟨[], R, f, false⟩
theorem emp_append {R : Nat} {nm c : List UInt8} {f : Option Nat} (hn : named nm = true) (hr : c.length ≤ R) :
    (emp R f).append nm c = (one R nm (c.take (burnF f c.length)) 0 (f.map (· - burnF f c.length)) (decide (burnF f c.length < c.length)), decide (burnF f c.length = c.length)) := by
  have hl : (emp R f).look nm = none := by simp [emp, Dk.look, lookBy]
  have hrf : (emp R f).refuses nm c.length = false := by
    unfold Dk.refuses
    have hu : used (emp R f).files = 0 := by simp [emp, used]
    have hd : (emp R f).dead = false := rfl
    have hf : (emp R f).files.length = 0 := rfl
    have hR : (emp R f).room = R := rfl
    rw [hn, hu, hd, hf, hR, decide_eq_false (by omega)]
    simp
  have hb : (emp R f).burn c.length = burnF f c.length := rfl
  have ho : (emp R f).old nm = ⟨nm, [], 0⟩ := by unfold Dk.old; rw [hl]; rfl
  unfold Dk.append
  rw [hrf, if_neg (by simp), hb]
  unfold Dk.appended
  rw [ho, hb]
  simp [one, putBy, delBy, insBy, emp]
theorem one_drop {R : Nat} {nm b : List UInt8} {l : Nat} : (one R nm b l none false).drop nm = (emp R none, true) := by
  unfold Dk.drop
  rw [one_look]
  have hs : (one R nm b l none false).step = (one R nm b l none false, true) := by
    unfold Dk.step; rw [if_neg (by simp [one])]; rfl
  simp only [hs, if_true]
  simp [Dk.dropped, one, delBy, emp]
theorem append_true {d : Dk} {nm c : List UInt8} (h1 : d.refuses nm c.length = false) (h2 : d.burn c.length = c.length) : (d.append nm c).2 = true := by
  unfold Dk.append; rw [h1, if_neg (by simp), h2]; simp
theorem append_false {d : Dk} {nm c : List UInt8} (h1 : d.refuses nm c.length = true) : d.append nm c = (d, false) := by
  unfold Dk.append; rw [h1, if_pos rfl]
/-- DiskFuse, in plain words -/
theorem fuse_law {b c : List UInt8} {n : Nat} (hb : b.length ≤ 100) (hc : c.length ≤ 100) : ∃ d1 d2 d3 d4 d5,
    (Dk.new 5000).setFuse (n : Int) = d1 ∧ d1.append [120] b = (d2, decide (b.length ≤ n)) ∧ d2.sync [120] = (d3, decide (b.length + 1 ≤ n)) ∧ d3.dead = decide (n < b.length + 1) ∧ d3.setFuse (200 : Int) = d4 ∧ d4.append [121] c = (d5, decide (b.length + 1 ≤ n)) := by
  have e1 : (Dk.new 5000).setFuse (n : Int) = emp 5000 (some n) := by
    unfold Dk.setFuse; rw [if_neg (by simp [Dk.new]), if_pos (by omega)]; simp [emp, Dk.new]; decide
  have e2 := emp_append (R := 5000) (nm := [120]) (c := b) (f := some n) (by rfl) (by omega)
  have hbf : burnF (some n) b.length = min n b.length := rfl
  rw [hbf, show decide (min n b.length = b.length) = decide (b.length ≤ n) from decide_eq_decide.2 (by omega)] at e2
  by_cases h : b.length + 1 ≤ n
  · have h1 : min n b.length = b.length := by omega
    rw [h1, List.take_length, decide_eq_false (show ¬ b.length < b.length by omega)] at e2
    have e3 := one_sync (R := 5000) (nm := [120]) (b := b) (l := 0) (f := some (n - b.length)) (by simp; omega)
    rw [decide_eq_true h, decide_eq_false (show ¬ n < b.length + 1 by omega)]
    have e4 : (one 5000 [120] b b.length (some (n - b.length - 1)) false).setFuse (200 : Int) = one 5000 [120] b b.length (some 200) false := one_fuse 200
    refine ⟨_, _, _, _, ((one 5000 [120] b b.length (some 200) false).append [121] c).1, e1, e2, e3, rfl, e4, ?_⟩
    · refine Prod.ext rfl (append_true ?_ ?_)
      · have hu : used (one 5000 [120] b b.length (some 200) false).files = b.length := by simp [one, used]
        unfold Dk.refuses
        rw [hu, show (one 5000 [120] b b.length (some 200) false).dead = false from rfl, show (one 5000 [120] b b.length (some 200) false).room = 5000 from rfl, show (one 5000 [120] b b.length (some 200) false).files.length = 1 from rfl, show named [121] = true from rfl, decide_eq_false (show ¬ 5000 < b.length + c.length by omega)]
        simp
      · show min 200 c.length = c.length
        omega
  · rw [decide_eq_false h, decide_eq_true (show n < b.length + 1 by omega)]
    have e3 := one_sync_dead (R := 5000) (nm := [120]) (b := b.take (min n b.length)) (l := 0) (f := (some n).map (· - min n b.length)) (dd := decide (min n b.length < b.length)) (by
      by_cases h2 : n < b.length
      · left; exact decide_eq_true (by omega)
      · right; simp; omega)
    refine ⟨_, _, _, _, _, e1, e2, e3, rfl, one_fuse_dead _, append_false ?_⟩
    unfold Dk.refuses
    rw [show (one 5000 [120] (b.take (min n b.length)) 0 ((some n).map (· - min n b.length)) true).dead = true from rfl]
    rfl
theorem fuse_law2 {b : List UInt8} {m : Int} (hm : m < 0) (hb : b.length ≤ 100) : ∃ d1 d2 d3 d4, (Dk.new 5000).setFuse m = d1 ∧ d1.append [120] b = (d2, true) ∧ d2.sync [120] = (d3, true) ∧ d3.drop [120] = (d4, true) := by
  have e1 : (Dk.new 5000).setFuse m = emp 5000 none := by
    unfold Dk.setFuse; rw [if_neg (by simp [Dk.new]), if_neg (by omega)]; simp [emp, Dk.new]; decide
  have e2 := emp_append (R := 5000) (nm := [120]) (c := b) (f := none) (by rfl) (by omega)
  have hbf : burnF none b.length = b.length := rfl
  rw [hbf, decide_eq_false (show ¬ b.length < b.length by omega), decide_eq_true rfl] at e2
  exact ⟨_, _, _, _, e1, e2, one_sync (by simp), one_drop⟩
set_option maxHeartbeats 4000000 in
set_option maxRecDepth 100000 in
theorem fuse_big (n : Nat) (a1 : Option Addr) (len1 cap1 : Nat) (m : Nat) (w : World) (hn : n ≤ 255) (hm : m ≤ 255) (hbig : 100 < len1) :
    Calls Try.prog 8 #[.int .u8 (n : Int), .slice a1 len1 cap1, .int .u8 (m : Int)] w fun e w' => e = .returned (.bool true) ∧ Kp [] w.heap.size w w' := by
  have hb1 : (100 : Int) < (len1 : Int) := by omega
  clear hbig
  go_enter Try.func8, Try.ntmps8
  go_wp2_with (go_at_call 28; (with_reducible refine (lknown _).mono ?_); rintro e w1 ⟨rfl, hk1⟩)
  go_ret
  exact ⟨rfl, hk1⟩
set_option maxHeartbeats 4000000 in
set_option maxRecDepth 100000 in
theorem fuse_small (n : Nat) (a1 : Option Addr) (len1 cap1 : Nat) (m : Nat) (w : World) (b : List UInt8) (hlb : b.length = len1) (hBb : BytesV w (fun k => k < w.heap.size) (.slice a1 len1 cap1) b) (hn : n ≤ 255) (hm : m ≤ 255) (hsm : len1 ≤ 100) :
    Calls Try.prog 8 #[.int .u8 (n : Int), .slice a1 len1 cap1, .int .u8 (m : Int)] w fun e w' => e = .returned (.bool true) ∧ Kp [] w.heap.size w w' := by
  obtain ⟨A, hA⟩ : ∃ A : Nat → Prop, A = fun k => w.heap.size + 1 < k := ⟨_, rfl⟩
  have hA1 : ∀ k, w.heap.size + 1 < k → A k := fun k hk => by rw [hA]; exact hk
  have hA2 : ¬ A w.heap.size ∧ ¬ A (w.heap.size + 1) := by rw [hA]; exact ⟨by omega, by omega⟩
  clear hA
  obtain ⟨mm, hmm⟩ : ∃ mm, mm = 1 + m % 50 := ⟨_, rfl⟩
  have hmm2 : mm ≤ 50 := by omega
  obtain ⟨d1, d2, d3, d4, d5, e1, e2, e3, e4, e5, e6⟩ := fuse_law (b := b) (c := List.replicate mm 0) (n := n) (by omega) (by simp; omega)
  obtain ⟨f1, f2, f3, f4, g1, g2, g3, g4⟩ := fuse_law2 (b := b) (m := -1 - (m : Int)) (by omega) (by omega)
  obtain ⟨q, hq⟩ : ∃ q, q = decide (b.length ≤ n) := ⟨_, rfl⟩
  obtain ⟨r, hr⟩ : ∃ r, r = decide (b.length + 1 ≤ n) := ⟨_, rfl⟩
  have hr2 : decide (n < b.length + 1) = !r := by rw [hr]; by_cases h : b.length + 1 ≤ n <;> simp [h] <;> omega
  rw [← hq] at e2; rw [← hr] at e3 e6; rw [hr2] at e4
  have hqi : decide ((len1 : Int) ≤ (n : Int)) = q := by rw [hq]; exact decide_eq_decide.2 (by omega)
  have hqn : decide (len1 ≤ n) = q := by rw [hq, hlb]
  have hri : decide ((len1 : Int) + 1 ≤ (n : Int)) = r := by rw [hr]; exact decide_eq_decide.2 (by omega)
  have hsi : decide ((n : Int) < (len1 : Int) + 1) = !r := by rw [← hr2]; exact decide_eq_decide.2 (by omega)
  have hmc : 1 + (m : Int) % 50 = (mm : Int) := by omega
  have E1 := Lib.hid e1; have E2 := Lib.hid e2; have E3 := Lib.hid e3; have E4 := Lib.hid e4; have E5 := Lib.hid e5; have E6 := Lib.hid e6
  have G1 := Lib.hid g1; have G2 := Lib.hid g2; have G3 := Lib.hid g3; have G4 := Lib.hid g4
  have HBb := Lib.hid hBb; have HLB := Lib.hid hlb; have HMC := Lib.hid hmc
  have hsm' : ¬ ((100 : Int) < (len1 : Int)) := by omega
  clear e1 e2 e3 e4 e5 e6 g1 g2 g3 g4 hBb hlb hq hr hr2 hmm hmc
  go_enter Try.func8, Try.ntmps8
  go_wp2_with fail
  refine (dNew A 5000 _ (by omega) hA2).mono ?_
  rintro e w1 ⟨rfl, h1, k1⟩
  go_wp2_with fail
  refine (dFuse A _ _ _ (n : Int) _ h1 (by omega)).mono ?_
  rintro e w2 ⟨rfl, h2, k2⟩
  rw [E1.out] at h2
  have K2 := k1.trans (k2.shed (B' := w.heap.size) (by simp) k1.size)
  go_wp2_with fail
  refine (dAppend A _ _ _ [120] b (fun k => k < w.heap.size) _ _ h2 (by decide) (HBb.out.mono K2.size (fun k hk _ => ⟨hk, K2.block k hk (by simp)⟩)) (by omega) (by have := HLB.out; omega) (fun k hk => hA1 k (by have := h2.lt; omega))).mono ?_
  rintro e w3 ⟨rfl, h3, k3⟩
  rw [E2.out] at h3 ⊢
  have K3 := K2.trans (k3.shed (by simp) K2.size)
  go_wp2_with fail
  refine (dSync A _ _ _ [120] _ h3 (by decide)).mono ?_
  rintro e w4 ⟨rfl, h4, k4⟩
  rw [E3.out] at h4 ⊢
  have K4 := K3.trans (k4.shed (by simp) K3.size)
  go_wp2_with fail
  refine (dDead A _ _ _ _ h4).mono ?_
  rintro e w5 ⟨rfl, rfl⟩
  rw [E4.out]
  go_wp2_with fail
  refine (dFuse A _ _ _ 200 _ h4 (by omega)).mono ?_
  rintro e w5 ⟨rfl, h5, k5⟩
  rw [E5.out] at h5
  have K5 := K4.trans (k5.shed (by simp) K4.size)
  go_wp2_with (at_make; go_must (refine wpList_makeB rfl _ _ rfl _ _ _ _ mm rfl rfl HMC.out HMC.out (by omega) ?_; intro w6 ho6 hk6))
  have K6 := K5.trans (hk6.shed (by simp) K5.size)
  have h6 := h5.kp_ge hk6
  have hz6 : BytesV w6 (fun k => k ≠ w.heap.size + 1) (.slice (some ⟨w5.heap.size, 0, none⟩) mm mm) (List.replicate mm 0) := BytesV.own ho6 (fun k hk => by have := h5.lt; omega)
  refine (dAppend A _ _ _ [121] (List.replicate mm 0) _ _ _ h6 (by decide) hz6 (by simp) (by simp; omega) (fun k hk => hA1 k (by have := h6.lt; omega))).mono ?_
  rintro e w7 ⟨rfl, h7, k7⟩
  rw [E6.out] at h7 ⊢
  have K7 := K6.trans (k7.shed (by simp) K6.size)
  go_wp2_with fail
  refine (dCrash A _ _ _ 0 _ h7 (by omega)).mono ?_
  rintro e w8 ⟨rfl, h8, k8⟩
  have K8 := K7.trans (k8.shed (by simp) K7.size)
  obtain ⟨B, hB⟩ : ∃ B : Nat → Prop, B = fun k => w8.heap.size + 1 < k := ⟨_, rfl⟩
  have hB1 : ∀ k, w8.heap.size + 1 < k → B k := fun k hk => by rw [hB]; exact hk
  have hB2 : ¬ B w8.heap.size ∧ ¬ B (w8.heap.size + 1) := by rw [hB]; exact ⟨by omega, by omega⟩
  clear hB
  go_wp2_with fail
  refine (dNew B 5000 _ (by omega) hB2).mono ?_
  rintro e w9 ⟨rfl, h9, k9⟩
  have K9 := K8.trans (k9.shed (by simp) K8.size)
  have h89 := h8.narrow.kp_ge k9
  go_wp2_with fail
  refine (dFuse B _ _ _ (-1 - (m : Int)) _ h9 (by omega)).mono ?_
  rintro e w10 ⟨rfl, h10, k10⟩
  rw [G1.out] at h10
  have K10 := K9.trans (k10.shed (by simp; have := K8.size; omega) K9.size)
  have hz8 : w.heap.size + 1 < w8.heap.size := h8.lt.1
  have h810 := h89.kp k10 (Nat.le_refl _) (by simp; omega)
  go_wp2_with fail
  refine (dAppend B _ _ _ [120] b (fun k => k < w.heap.size) _ _ h10 (by decide) (HBb.out.mono K10.size (fun k hk _ => ⟨hk, K10.block k hk (by simp)⟩)) (by omega) (by have := HLB.out; omega) (fun k hk => hB1 k (by have := h10.lt; omega))).mono ?_
  rintro e w11 ⟨rfl, h11, k11⟩
  rw [G2.out] at h11 ⊢
  have K11 := K10.trans (k11.shed (by simp; have := K8.size; omega) K10.size)
  have h811 := h810.kp k11 (Nat.le_refl _) (by simp; omega)
  go_wp2_with fail
  refine (dSync B _ _ _ [120] _ h11 (by decide)).mono ?_
  rintro e w12 ⟨rfl, h12, k12⟩
  rw [G3.out] at h12 ⊢
  have K12 := K11.trans (k12.shed (by simp; have := K8.size; omega) K11.size)
  have h812 := h811.kp k12 (Nat.le_refl _) (by simp; omega)
  go_wp2_with fail
  refine (dDrop B _ _ _ [120] _ h12 (by decide)).mono ?_
  rintro e w13 ⟨rfl, h13, k13⟩
  rw [G4.out] at h13 ⊢
  have K13 := K12.trans (k13.shed (by simp; have := K8.size; omega) K12.size)
  have h813 := h812.kp k13 (Nat.le_refl _) (by simp; omega)
  go_wp2_with fail
  refine (lknown _).mono ?_
  rintro e w14 ⟨rfl, k14⟩
  have K14 := K13.trans (k14.mono (by simp) K13.size)
  have h814 := h813.kp_ge k14
  go_wp2_with fail
  refine (dDead _ _ _ _ _ h814).mono ?_
  rintro e w15 ⟨rfl, rfl⟩
  go_wp2_with fail
  go_ret
  exact ⟨rfl, K14⟩
theorem diskFuse_row (a0 : Int) (a1 : Option Addr) (len1 cap1 : Nat) (z1 : List Int) (a2 : Int) (w : World) (w0 : (Lit.int .u8 a0).wf = true)
    (w1 : (a1 = none ∧ len1 = 0 ∧ cap1 = 0 ∧ z1 = []) ∨ ∃ x, a1 = some x ∧ len1 ≤ cap1 ∧ cap1 ≤ maxLen ∧ z1.length = cap1 ∧ (∀ i, i < z1.length → w.cell? (x.add i) = some (.int .u8 (z1.getD i 0))) ∧ ∀ n ∈ z1, (Lit.int .u8 n).wf = true) (y1 : len1 * 1 ≤ 140737488351232)
    (w2 : (Lit.int .u8 a2).wf = true) :
    Calls Try.prog 8 #[.int .u8 a0, .slice a1 len1 cap1, .int .u8 a2] w fun e w' => e = .returned (.bool true) ∧ Below w.heap.size w w' := by
  obtain ⟨b, hlb, hB⟩ := row_bytes w1
  obtain ⟨n, hn, rfl⟩ := u8_nat w0
  obtain ⟨m, hm, rfl⟩ := u8_nat w2
  by_cases hbig : 100 < len1
  · exact (fuse_big n a1 len1 cap1 m w hn hm hbig).mono fun e w' ⟨h1, h2⟩ => ⟨h1, h2.below⟩
  · exact (fuse_small n a1 len1 cap1 m w b hlb hB hn hm (by omega)).mono fun e w' ⟨h1, h2⟩ => ⟨h1, h2.below⟩
end Go.Proofs.Ytdabflkejhoghaa.Hand
