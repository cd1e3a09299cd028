/- DiskMoves: the walk. -/
import Derived.Below
import Derived.Deep.Draws
import Derived.Deep.AppendLies
import Derived.Maps.AppendAt
import Derived.OwnWalk
import Derived.Laws.BytesArg
import Derived.Laws.MakeOwn
import Derived.Laws.OwnMore
import Derived.Deep.OwnRows
import Derived.Tactics
import Derived.Lib.ConvBytes
import Derived.Laws.Slices
import Derived.WalkKit
import Derived.KernelRfl
import Derived.RowKit3
import Derived.Deep.LoopGhost
import Derived.Deep.QuietTactic
import Derived.BigQuiet
import Derived.WideLaws
import Derived.Deep.DeepCutAuto
import Derived.Deep.CutBlock
import Derived.Deep.RegionHeld3
import Derived.Laws.Rows
import Derived.Lib.AppendStr
import Derived.ArgAppend
import Derived.Laws.IdiomCopy
import Derived.OrdersHeld
import Derived.Laws.BitsLemmas
import Derived.RowKit
import Derived.Outline
import Derived.Maps.Own
import Derived.Maps.OwnOps
import Derived.Maps.OwnSet
import Derived.Maps.Views
import Derived.Maps.RangeWalk
import Derived.Maps.Ext
import Derived.RangeFuncOwn
import Derived.OneCell
import Derived.Deep.DeepMust
import Derived.Lib.Hide
import Derived.StillTailTactics
import Derived.Laws.AppendOwnNone
import Derived.WalkMore
import Derived.Lib.SlBytesConst
import Derived.WalkLawsBesides
import Derived.Test.YtdabflkejhoghaaHLFuse
namespace Go.Proofs.Ytdabflkejhoghaa.Hand
open Go Go.RowKit Go.Maps Go.WideMaps
set_option linter.unusedVariables false
set_option linter.unusedSimpArgs false
def two (x y c : List UInt8) (l : Nat) (f : Option Nat) (dd : Bool) : Dk := ⟨[⟨[120], x, l⟩, ⟨[121], y, 0⟩], 1000, f, dd⟩
theorem one_append2 {b c : List UInt8} {l : Nat} (h : b.length + c.length ≤ 1000) : (one 1000 [120] b l none false).append [121] c = (two b c [] l none false, true) := by
  have hl : (one 1000 [120] b l none false).look [121] = none := by simp [one, Dk.look, lookBy]
  have hrf : (one 1000 [120] b l none false).refuses [121] c.length = false := by
    have hu : used (one 1000 [120] b l none false).files = b.length := by simp [one, used]
    unfold Dk.refuses
    rw [hu, show (one 1000 [120] b l none false).dead = false from rfl, show (one 1000 [120] b l none false).room = 1000 from rfl, show (one 1000 [120] b l none false).files.length = 1 from rfl, show named [121] = true from rfl, decide_eq_false (show ¬ 1000 < b.length + c.length by omega)]
    simp
  have hb : (one 1000 [120] b l none false).burn c.length = c.length := rfl
  have ho : (one 1000 [120] b l none false).old [121] = ⟨[121], [], 0⟩ := by unfold Dk.old; rw [hl]; rfl
  have hbb : bytesBefore [121] [120] = false := by decide
  unfold Dk.append
  rw [hrf, if_neg (by simp), hb]
  unfold Dk.appended
  rw [ho, hb]
  simp [one, two, putBy, delBy, insBy, hbb]
theorem two_rename {b c : List UInt8} {l : Nat} : (two b c [] l none false).rename [120] [121] = (one 1000 [121] b l none false, true) := by
  have hl : (two b c [] l none false).look [120] = some ⟨[120], b, l⟩ := by simp [two, Dk.look, lookBy]
  have hs : (two b c [] l none false).step = (two b c [] l none false, true) := by
    unfold Dk.step; rw [if_neg (by simp [two])]; rfl
  unfold Dk.rename
  rw [hl]
  simp only [hs, if_true, show named [121] = true from rfl]
  simp [Dk.moved, two, one, putBy, delBy, insBy]
theorem two_fuse {b c : List UInt8} {l : Nat} : (two b c [] l none false).setFuse 0 = two b c [] l (some 0) false := by
  unfold Dk.setFuse
  rw [if_neg (by simp [two]), if_pos (by omega)]
  rfl
theorem two_rename_dead {b c : List UInt8} {l : Nat} : (two b c [] l (some 0) false).rename [120] [121] = (two b c [] l (some 0) true, false) := by
  have hl : (two b c [] l (some 0) false).look [120] = some ⟨[120], b, l⟩ := by simp [two, Dk.look, lookBy]
  have hs : (two b c [] l (some 0) false).step = (two b c [] l (some 0) true, false) := by
    unfold Dk.step; rw [if_pos (by simp [two])]; rfl
  unfold Dk.rename
  rw [hl]
  simp only [hs, show named [121] = true from rfl]
  rfl
theorem two_x {b c : List UInt8} {l : Nat} {f : Option Nat} {dd : Bool} : (two b c [] l f dd).there [120] = true ∧ ((two b c [] l f dd).old [120]).b = b := by
  have hl : (two b c [] l f dd).look [120] = some ⟨[120], b, l⟩ := by simp [two, Dk.look, lookBy]
  exact ⟨by unfold Dk.there; rw [hl]; rfl, by unfold Dk.old; rw [hl]; rfl⟩
theorem two_y {b c : List UInt8} {l : Nat} {f : Option Nat} {dd : Bool} : (two b c [] l f dd).there [121] = true ∧ ((two b c [] l f dd).old [121]).b = c := by
  have hl : (two b c [] l f dd).look [121] = some ⟨[121], c, 0⟩ := by simp [two, Dk.look, lookBy]
  exact ⟨by unfold Dk.there; rw [hl]; rfl, by unfold Dk.old; rw [hl]; rfl⟩
theorem one_not {b : List UInt8} {l : Nat} : (one 1000 [121] b l none false).there [120] = false := by
  have hl : (one 1000 [121] b l none false).look [120] = none := by simp [one, Dk.look, lookBy]
  unfold Dk.there; rw [hl]; rfl
/-- the first half: what lies there before the rename -/
def sLen (sy : Bool) (a : List UInt8) : Nat := if sy then a.length else 0
theorem conv_at {w w' : World} {a : Option Addr} {n c : Nat} {b : List UInt8} (h : BytesV w (fun k => k < w.heap.size) (.slice a n c) b) (hk : Kp [] w.heap.size w w') : (convert 22 9 (.slice a n c)).run Try.prog w' = .ok (.string ⟨b.toArray⟩) w' :=
  conv_bytes (h.mono hk.size (fun k hk1 _ => ⟨hk1, hk.block k hk1 (by simp)⟩))
set_option maxHeartbeats 4000000 in
set_option maxRecDepth 100000 in
theorem moves_big (a0 : Option Addr) (len0 cap0 : Nat) (a1 : Option Addr) (len1 cap1 : Nat) (a2 : Option Addr) (len2 cap2 : Nat) (sy fu : Bool) (w : World) (hl0 : len0 ≤ 140737488351232) (hl1 : len1 ≤ 140737488351232) (hl2 : len2 ≤ 140737488351232) (hbig : 300 < len0 + len1 + len2) :
    Calls Try.prog 9 #[.slice a0 len0 cap0, .slice a1 len1 cap1, .slice a2 len2 cap2, .bool sy, .bool fu] w fun e w' => e = .returned (.bool true) ∧ Kp [] w.heap.size w w' := by
  have hb1 : (300 : Int) < (len0 : Int) + (len1 : Int) + (len2 : Int) := by omega
  clear hbig
  go_enter Try.func9, Try.ntmps9
  go_wp2_with (go_at_call 28; (with_reducible refine (lknown _).mono ?_); rintro e w1 ⟨rfl, hk1⟩)
  go_ret
  exact ⟨rfl, hk1⟩
set_option maxHeartbeats 4000000 in
set_option maxRecDepth 100000 in
theorem moves_small (a0 : Option Addr) (len0 cap0 : Nat) (a1 : Option Addr) (len1 cap1 : Nat) (a2 : Option Addr) (len2 cap2 : Nat) (sy fu : Bool) (w : World) (a b c : List UInt8) (hla : a.length = len0) (hlb : b.length = len1) (hlc : c.length = len2)
    (hBa : BytesV w (fun k => k < w.heap.size) (.slice a0 len0 cap0) a) (hBb : BytesV w (fun k => k < w.heap.size) (.slice a1 len1 cap1) b) (hBc : BytesV w (fun k => k < w.heap.size) (.slice a2 len2 cap2) c) (hsm : len0 + len1 + len2 ≤ 300) :
    Calls Try.prog 9 #[.slice a0 len0 cap0, .slice a1 len1 cap1, .slice a2 len2 cap2, .bool sy, .bool fu] w fun e w' => e = .returned (.bool true) ∧ Kp [] w.heap.size w w' := by
  obtain ⟨A, hA⟩ : ∃ A : Nat → Prop, A = fun k => w.heap.size + 1 < k := ⟨_, rfl⟩
  have hA1 : ∀ k, w.heap.size + 1 < k → A k := fun k hk => by rw [hA]; exact hk
  have hA2 : ¬ A w.heap.size ∧ ¬ A (w.heap.size + 1) := by rw [hA]; exact ⟨by omega, by omega⟩
  clear hA
  have e1 := new_append (room := 1000) (nm := [120]) (c := a) (by rfl) (by show a.length ≤ 1000; omega)
  have e3 := fun l => one_append (R := 1000) (nm := [120]) (b := a) (c := b) (l := l) (f := none) (by rfl) (by omega)
  have hbf : burnF none b.length = b.length := rfl
  simp only [hbf, List.take_length, Nat.lt_irrefl, decide_false, decide_true, Option.map_none] at e3
  have e4 := fun l => one_append2 (b := a ++ b) (c := c) (l := l) (by simp; omega)
  have E1 := Lib.hid e1; have E3 := Lib.hid e3; have E4 := Lib.hid e4
  have HBa := Lib.hid hBa; have HBb := Lib.hid hBb; have HBc := Lib.hid hBc
  have HLB := Lib.hid hlb; have HLA := Lib.hid hla; have HLC := Lib.hid hlc
  have hsm' : ¬ ((300 : Int) < (len0 : Int) + (len1 : Int) + (len2 : Int)) := by omega
  have hsl : sLen sy a ≤ a.length := by unfold sLen; split <;> omega
  have HSL := Lib.hid hsl
  clear e1 e3 e4 hbf hBa hBb hBc hlb hla hlc hsl
  go_enter Try.func9, Try.ntmps9
  go_wp2_with fail
  refine (dNew A 1000 _ (by omega) hA2).mono ?_
  rintro e w1 ⟨rfl, h1, k1⟩
  go_wp2_with fail
  refine (dAppend A _ _ _ [120] a (fun k => k < w.heap.size) _ _ h1 (by decide) (HBa.out.mono k1.size (fun k hk _ => ⟨hk, k1.block k hk (by simp)⟩)) (by omega) (by have := HLA.out; omega) (fun k hk => hA1 k (by have := h1.lt; omega))).mono ?_
  rintro e w2 ⟨rfl, h2, k2⟩
  rw [E1.out] at h2 ⊢
  have K2 := k1.trans (k2.shed (B' := w.heap.size) (by simp) k1.size)
  go_upto_if 34 with fail
  go_cut [] (fun wx => Hid (IsDisk wx A (w.heap.size + 1) w.heap.size (one 1000 [120] a (sLen sy a) none false) ∧ Kp [] w.heap.size w wx))
  case first =>
    cases sy with
    | true =>
      go_wp2_with fail
      refine (dSync A _ _ _ [120] _ h2 (by decide)).mono ?_
      rintro e w3 ⟨rfl, h3, k3⟩
      have e2 := one_sync (R := (Dk.new 1000).room) (nm := [120]) (b := a) (l := 0) (f := none) (by simp)
      rw [e2] at h3 ⊢
      have H3 : Hid (IsDisk w3 A (w.heap.size + 1) w.heap.size (one 1000 [120] a (sLen true a) none false) ∧ Kp [] w.heap.size w w3) := ⟨h3, K2.trans (k3.shed (by simp) K2.size)⟩
      clear h3 e2
      go_wp2
      go_meet
      exact H3
    | false =>
      have H2 : Hid (IsDisk w2 A (w.heap.size + 1) w.heap.size (one 1000 [120] a (sLen false a) none false) ∧ Kp [] w.heap.size w w2) := ⟨h2, K2⟩
      clear h2
      go_wp2
      go_meet
      exact H2
  case rest =>
    obtain ⟨h3, K3⟩ := hcut.out
    clear h2 hcut
    go_wp2_with fail
    refine (dAppend A _ _ _ [120] b (fun k => k < w.heap.size) _ _ h3 (by decide) (HBb.out.mono K3.size (fun k hk _ => ⟨hk, K3.block k hk (by simp)⟩)) (by omega) (by have := HLB.out; omega) (fun k hk => hA1 k (by have := h3.lt; omega))).mono ?_
    rintro e w4 ⟨rfl, h4, k4⟩
    rw [E3.out] at h4 ⊢
    have K4 := K3.trans (k4.shed (by simp) K3.size)
    go_wp2_with fail
    refine (dAppend A _ _ _ [121] c (fun k => k < w.heap.size) _ _ h4 (by decide) (HBc.out.mono K4.size (fun k hk _ => ⟨hk, K4.block k hk (by simp)⟩)) (by omega) (by have := HLC.out; omega) (fun k hk => hA1 k (by have := h4.lt; omega))).mono ?_
    rintro e w5 ⟨rfl, h5, k5⟩
    rw [E4.out] at h5 ⊢
    have K5 := K4.trans (k5.shed (by simp) K4.size)
    obtain ⟨X, hX⟩ : ∃ X : ByteArray, X = ⟨a.toArray⟩ := ⟨_, rfl⟩
    obtain ⟨Y, hY⟩ : ∃ X : ByteArray, X = ⟨b.toArray⟩ := ⟨_, rfl⟩
    obtain ⟨Z, hZ⟩ : ∃ X : ByteArray, X = ⟨(a ++ b).toArray⟩ := ⟨_, rfl⟩
    obtain ⟨C, hC⟩ : ∃ X : ByteArray, X = ⟨c.toArray⟩ := ⟨_, rfl⟩
    obtain ⟨LS, hLS⟩ : ∃ X : ByteArray, X = ⟨(a.take (sLen sy a)).toArray⟩ := ⟨_, rfl⟩
    have HLS := Lib.hid hLS
    clear hLS
    have hadd : X ++ Y = Z := by rw [hX, hY, hZ]; apply ByteArray.ext; simp
    have y1 : (9223372036854775807 < X.size + Y.size) = False := eq_false (by
      have h1 : X.size = a.length := by rw [hX]; rfl
      have h2 : Y.size = b.length := by rw [hY]; rfl
      have := HLA.out; have := HLB.out; omega)
    have HX := Lib.hid hX; have HY := Lib.hid hY; have HZ := Lib.hid hZ; have HC := Lib.hid hC
    clear hX hY hZ hC
    cases fu with
    | true =>
      go_wp2_with fail
      refine (dFuse A _ _ _ 0 _ h5 (by omega)).mono ?_
      rintro e w6 ⟨rfl, h6, k6⟩
      rw [two_fuse] at h6
      have K6 := K5.trans (k6.shed (by simp) K5.size)
      go_wp2_with fail
      refine (dRename A _ _ _ [120] [121] _ h6 (by decide) (by decide)).mono ?_
      rintro e w7 ⟨rfl, h7, k7⟩
      rw [two_rename_dead] at h7 ⊢
      have K7 := K6.trans (k7.shed (by simp) K6.size)
      go_wp2_with fail
      refine (dRead A _ _ _ [120] _ h7 (by decide)).mono ?_
      rintro e w8 ⟨v15, rfl, ho8, k8⟩
      rw [two_x.1]
      rw [two_x.2] at ho8
      have h8 := h7.kp_ge k8
      have K8 := K7.trans (k8.shed (by simp) K7.size)
      have hv15 := own_bytesV ho8
      clear ho8
      go_wp2_with fail
      refine (dRead A _ _ _ [121] _ h8 (by decide)).mono ?_
      rintro e w9 ⟨v17, rfl, ho9, k9⟩
      rw [two_y.1]
      rw [two_y.2] at ho9
      have h9 := h8.kp_ge k9
      have K9 := K8.trans (k9.shed (by simp) K8.size)
      have hv17 := own_bytesV ho9
      clear ho9
      go_upto_if 60 with fail
      go_cut [19] (fun q wx => q = .string LS ∧ w9 = wx)
      case first =>
        have cva := conv_at HBa.out K9
        cases sy with
        | true =>
          have hls : LS = X := by rw [HLS.out, HX.out]; simp [sLen]
          rw [← HX.out] at cva
          subst hls
          go_wp2
          go_meet
          exact ⟨rfl, rfl⟩
        | false =>
          have hls : LS = ByteArray.empty := by rw [HLS.out]; simp [sLen]; rfl
          subst hls
          go_wp2
          go_meet
          exact ⟨rfl, rfl⟩
      case rest =>
        obtain ⟨rfl, rfl⟩ := hcut
        go_wp2_with fail
        refine (lknown _).mono ?_
        rintro e w10 ⟨rfl, k10⟩
        have K10 := K9.trans (k10.mono (by simp) K9.size)
        have h10 := h9.kp_ge k10
        have c1 := conv_at HBa.out K10
        have c2 := conv_at HBb.out K10
        have c3 := conv_at HBc.out K10
        have c4 := conv_bytes ((hv15.kp k9 (by simp)).kp k10 (by simp))
        have c5 := conv_bytes (hv17.kp k10 (by simp))
        rw [← HX.out] at c1; rw [← HY.out] at c2; rw [← HC.out] at c3 c5; rw [← HZ.out] at c4
        go_wp2_with fail
        refine (dDead A _ _ _ _ h10).mono ?_
        rintro e w11 ⟨rfl, rfl⟩
        rw [show (two (a ++ b) c [] (sLen sy a) (some 0) true).dead = true from rfl]
        go_wp2_with fail
        go_ret
        exact ⟨rfl, K10⟩
    | false =>
      go_wp2_with fail
      refine (dRename A _ _ _ [120] [121] _ h5 (by decide) (by decide)).mono ?_
      rintro e w7 ⟨rfl, h7, k7⟩
      rw [two_rename] at h7 ⊢
      have K7 := K5.trans (k7.shed (by simp) K5.size)
      go_wp2_with fail
      refine (dRead A _ _ _ [120] _ h7 (by decide)).mono ?_
      rintro e w8 ⟨v15, rfl, ho8, k8⟩
      rw [one_not]
      rw [old_none one_not] at ho8
      have h8 := h7.kp_ge k8
      have K8 := K7.trans (k8.shed (by simp) K7.size)
      obtain ⟨so5, n5, sc5, rfl, hn5⟩ := own_shape ho8
      have hn50 : n5 = 0 := hn5.out
      subst hn50
      clear ho8 hn5
      go_wp2_with fail
      refine (dRead A _ _ _ [121] _ h8 (by decide)).mono ?_
      rintro e w9 ⟨v17, rfl, ho9, k9⟩
      rw [one_there]
      rw [one_old] at ho9
      have h9 := h8.kp_ge k9
      have K9 := K8.trans (k9.shed (by simp) K8.size)
      have hv17 := own_bytesV ho9
      clear ho9
      go_upto_if 60 with fail
      go_cut [19] (fun q wx => q = .string LS ∧ w9 = wx)
      case first =>
        have cva := conv_at HBa.out K9
        cases sy with
        | true =>
          have hls : LS = X := by rw [HLS.out, HX.out]; simp [sLen]
          rw [← HX.out] at cva
          subst hls
          go_wp2
          go_meet
          exact ⟨rfl, rfl⟩
        | false =>
          have hls : LS = ByteArray.empty := by rw [HLS.out]; simp [sLen]; rfl
          subst hls
          go_wp2
          go_meet
          exact ⟨rfl, rfl⟩
      case rest =>
        obtain ⟨rfl, rfl⟩ := hcut
        go_wp2_with fail
        refine (lknown _).mono ?_
        rintro e w10 ⟨rfl, k10⟩
        have K10 := K9.trans (k10.mono (by simp) K9.size)
        have h10 := h9.kp_ge k10
        have c1 := conv_at HBa.out K10
        have c2 := conv_at HBb.out K10
        have c5 := conv_bytes (hv17.kp k10 (by simp))
        rw [← HX.out] at c1; rw [← HY.out] at c2; rw [← HZ.out] at c5
        go_wp2_with fail
        refine (dLasting A _ _ _ [121] _ h10 (by decide)).mono ?_
        rintro e w11 ⟨v, rfl, ho11, k11⟩
        have K11 := K10.trans (k11.mono (by simp) K10.size)
        rw [one_old] at ho11
        have hl : F.last ⟨[121], a ++ b, sLen sy a⟩ = a.take (sLen sy a) := by
          unfold F.last
          rw [List.take_append, Nat.sub_eq_zero_of_le HSL.out]
          simp
        rw [hl] at ho11
        have c6 := conv_bytes (own_bytesV ho11)
        rw [← HLS.out] at c6
        clear ho11 hl
        go_wp2_with fail
        go_ret
        exact ⟨rfl, K11⟩
theorem diskMoves_row (a0 : Option Addr) (len0 cap0 : Nat) (z0 : List Int) (a1 : Option Addr) (len1 cap1 : Nat) (z1 : List Int) (a2 : Option Addr) (len2 cap2 : Nat) (z2 : List Int) (a3 a4 : Bool) (w : World)
    (w0 : (a0 = none ∧ len0 = 0 ∧ cap0 = 0 ∧ z0 = []) ∨ ∃ x, a0 = some x ∧ len0 ≤ cap0 ∧ cap0 ≤ maxLen ∧ z0.length = cap0 ∧ (∀ i, i < z0.length → w.cell? (x.add i) = some (.int .u8 (z0.getD i 0))) ∧ ∀ n ∈ z0, (Lit.int .u8 n).wf = true) (y0 : len0 * 1 ≤ 140737488351232)
    (w1 : (a1 = none ∧ len1 = 0 ∧ cap1 = 0 ∧ z1 = []) ∨ ∃ x, a1 = some x ∧ len1 ≤ cap1 ∧ cap1 ≤ maxLen ∧ z1.length = cap1 ∧ (∀ i, i < z1.length → w.cell? (x.add i) = some (.int .u8 (z1.getD i 0))) ∧ ∀ n ∈ z1, (Lit.int .u8 n).wf = true) (y1 : len1 * 1 ≤ 140737488351232)
    (w2 : (a2 = none ∧ len2 = 0 ∧ cap2 = 0 ∧ z2 = []) ∨ ∃ x, a2 = some x ∧ len2 ≤ cap2 ∧ cap2 ≤ maxLen ∧ z2.length = cap2 ∧ (∀ i, i < z2.length → w.cell? (x.add i) = some (.int .u8 (z2.getD i 0))) ∧ ∀ n ∈ z2, (Lit.int .u8 n).wf = true) (y2 : len2 * 1 ≤ 140737488351232) :
    Calls Try.prog 9 #[.slice a0 len0 cap0, .slice a1 len1 cap1, .slice a2 len2 cap2, .bool a3, .bool a4] w fun e w' => e = .returned (.bool true) ∧ Below w.heap.size w w' := by
  obtain ⟨a, hla, hA⟩ := row_bytes w0
  obtain ⟨b, hlb, hB⟩ := row_bytes w1
  obtain ⟨c, hlc, hC⟩ := row_bytes w2
  by_cases hbig : 300 < len0 + len1 + len2
  · exact (moves_big a0 len0 cap0 a1 len1 cap1 a2 len2 cap2 a3 a4 w (by omega) (by omega) (by omega) hbig).mono fun e w' ⟨h1, h2⟩ => ⟨h1, h2.below⟩
  · exact (moves_small a0 len0 cap0 a1 len1 cap1 a2 len2 cap2 a3 a4 w a b c hla hlb hlc hA hB hC (by omega)).mono fun e w' ⟨h1, h2⟩ => ⟨h1, h2.below⟩
end Go.Proofs.Ytdabflkejhoghaa.Hand
