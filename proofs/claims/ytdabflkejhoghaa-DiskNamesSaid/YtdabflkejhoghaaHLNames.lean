/- DiskNames: the walk. -/
import Derived.Below
import Derived.Deep.Draws
import Derived.Deep.AppendLies
import Derived.Maps.AppendAt
import Derived.OwnWalk
import Derived.Laws.BytesArg
import Derived.Laws.MakeOwn
import Derived.Laws.OwnMore
import Derived.Deep.OwnRows
import Derived.Tactics
import Derived.Lib.ConvBytes
import Derived.Laws.Slices
import Derived.WalkKit
import Derived.KernelRfl
import Derived.RowKit3
import Derived.Deep.LoopGhost
import Derived.Deep.QuietTactic
import Derived.BigQuiet
import Derived.WideLaws
import Derived.Deep.DeepCutAuto
import Derived.Deep.CutBlock
import Derived.Deep.RegionHeld3
import Derived.Laws.Rows
import Derived.Lib.AppendStr
import Derived.ArgAppend
import Derived.Laws.IdiomCopy
import Derived.OrdersHeld
import Derived.Laws.BitsLemmas
import Derived.RowKit
import Derived.Outline
import Derived.Maps.Own
import Derived.Maps.OwnOps
import Derived.Maps.OwnSet
import Derived.Maps.Views
import Derived.Maps.RangeWalk
import Derived.Maps.Ext
import Derived.RangeFuncOwn
import Derived.OneCell
import Derived.Deep.DeepMust
import Derived.Lib.Hide
import Derived.StillTailTactics
import Derived.Laws.AppendOwnNone
import Derived.WalkMore
import Derived.Lib.SlBytesConst
import Derived.WalkLawsBesides
import Derived.Test.YtdabflkejhoghaaHLRoom
import Derived.Test.YtdabflkejhoghaaHPn
namespace Go.Proofs.Ytdabflkejhoghaa.Hand
open Go Go.RowKit Go.Maps Go.WideMaps
set_option linter.unusedVariables false
set_option linter.unusedSimpArgs false
def SeenV (w : World) (sb : Nat) (cs : List Nat) : Prop := ∀ i (hi : i < cs.length), w.cell? ⟨sb, i, none⟩ = some (.int .i64 (cs[i] : Int)) ∧ w.frozen? ⟨sb, i, none⟩ = false
theorem SeenV.kp {w w' : World} {sb : Nat} {cs : List Nat} {L : List Nat} {B : Nat} (h : SeenV w sb cs) (hk : Kp L B w w') (hs : sb < B) (hn : sb ∉ L) : SeenV w' sb cs := fun i hi => by
  rw [hk.cell (p := ⟨sb, i, none⟩) hs hn, World.frozen?_of_block (w := w) (a := ⟨sb, i, none⟩) (hk.block sb hs hn)]; exact h i hi
theorem SeenV.set {w : World} {sb : Nat} {cs : List Nat} (h : SeenV w sb cs) (j : Nat) (hj : j < cs.length) (c : Nat) : SeenV (w.setCell ⟨sb, j, none⟩ (.int .i64 (c : Int))) sb (cs.set j c) := fun i hi => by
  have hi' : i < cs.length := by simpa using hi
  by_cases hij : j = i
  · subst hij
    rw [World.cell?_setCell_same (h := (h j hj).1), List.getElem_set_self, World.frozen?_setCell]
    exact ⟨rfl, (h j hj).2⟩
  · rw [World.cell?_setCell_other (h := fun e => hij (congrArg Addr.off e)), List.getElem_set_ne hij, World.frozen?_setCell]
    exact h i hi'
theorem row_cells {w : World} {base E n : Nat} {v : Value} {xs : List Value} (h : w.ownsRow base E 1 v n xs) : ∃ ao cap, v = .slice ao n cap ∧ xs.length = n ∧ n ≤ cap ∧ cap ≤ maxLen ∧ ((ao = none ∧ xs = []) ∨ ∃ g, ao = some ⟨g, 0, none⟩ ∧ base ≤ g ∧ g < w.heap.size ∧ (∀ j (hj : j < xs.length), w.cell? ⟨g, j, none⟩ = some xs[j]) ∧ ∀ j, w.frozen? ⟨g, j, none⟩ = false) := by
  obtain ⟨hl, hv⟩ := h
  have hn : n = xs.length := by simpa using hl.symm
  subst hn
  rcases hv with ⟨rfl, hx⟩ | ⟨g, cap, cur, rfl, hg, hb, h1, h2, h3, h4⟩
  · have : xs = [] := List.length_eq_zero_iff.1 hx
    subst this
    exact ⟨none, 0, rfl, rfl, Nat.le_refl _, by decide, .inl ⟨rfl, rfl⟩⟩
  · refine ⟨_, cap, rfl, rfl, h1, h2, .inr ⟨g, rfl, hg, (Array.getElem?_eq_some_iff.1 hb).1, fun j hj => ?_, fun j => Lib.frozen_of_heap hb j⟩⟩
    rw [Lib.cell_of_heap hb, ← Array.getElem?_toList]
    have h5 : (cur.toList.take (xs.length * 1))[j]? = xs[j]? := by rw [h4]
    rw [List.getElem?_take_of_lt (by omega)] at h5
    rw [h5, List.getElem?_eq_getElem hj]
theorem infoInt : (Try.prog.info? 3).map (fun i => (i.zero, i.size, i.bytes)) = some (some (.int .i64 0), 1, 8) := by kernel_rfl
theorem info_parts8 {P : Program} {t : TypeId} {z : Value} {n m : Nat} (h : (P.info? t).map (fun i => (i.zero, i.size, i.bytes)) = some (some z, n, m)) : ∃ i, P.info? t = some i ∧ i.zero = some z ∧ i.size = n ∧ i.bytes = m := by
  cases hi : P.info? t with
  | none => rw [hi] at h; cases h
  | some i => rw [hi] at h; simp only [Option.map_some, Option.some.injEq, Prod.mk.injEq] at h; exact ⟨i, rfl, h.1, h.2.1, h.2.2⟩
theorem wpList_make6 {w : World} {ops : Array Oper} {rest : List Oper} {o : Oper} {a : Act} {Q : Exit → Act → World → Prop} (hg : o.guard = none) (l c : Operand) (hop : o.op = Op.makeSlice 44 l c) (hl : a.eval l = .int .i64 6) (hc : a.eval c = .int .i64 6)
    (hK : ∀ w', SeenV w' w.heap.size [0, 0, 0, 0, 0, 0] → w.heap.size < w'.heap.size → Kp [] w.heap.size w w' → wpList Try.prog ops Q rest (a.put o.dst (.slice (some ⟨w.heap.size, 0, none⟩) 6 6)) w') : wpList Try.prog ops Q (o :: rest) a w := by
  obtain ⟨i0, hi, hz0, hz1, hz2⟩ := info_parts8 infoInt
  refine wpList_make_full w hg l c 44 hop w.heap.size 3 i0 (.int .i64 0) 1 Try.underlying44 hi hz0 hz1 .i64 .i64 6 6 6 hl hc rfl rfl (by rw [hz2]; omega) (by unfold maxLen; omega) (Nat.le_refl _) (fun w' h1 h2 => ?_)
  have hz : (madeCells (Value.int .i64 0).cells (6 * 1)).toList = [.int .i64 0, .int .i64 0, .int .i64 0, .int .i64 0, .int .i64 0, .int .i64 0] := by kernel_rfl
  rw [hz] at h1
  obtain ⟨ao, cap, he, _, _, _, h3⟩ := row_cells h1
  injection he with he1 he2 he3
  subst he1
  rcases h3 with ⟨h3, _⟩ | ⟨g, hg, h4, h5, h6, h7⟩
  · cases h3
  · injection hg with hg
    injection hg with hg
    subst hg
    refine hK w' (fun i hi => ?_) h5 (kp_grown h2 (by simp) (Nat.le_refl _))
    match i, hi with
    | 0, _ => exact ⟨h6 0 (by decide), h7 0⟩
    | 1, _ => exact ⟨h6 1 (by decide), h7 1⟩
    | 2, _ => exact ⟨h6 2 (by decide), h7 2⟩
    | 3, _ => exact ⟨h6 3 (by decide), h7 3⟩
    | 4, _ => exact ⟨h6 4 (by decide), h7 4⟩
    | 5, _ => exact ⟨h6 5 (by decide), h7 5⟩
theorem nzs_take (cs : List Nat) (j : Nat) (hj : j < cs.length) : nzs (cs.take (j + 1)) = nzs (cs.take j) + if 0 < cs[j] then 1 else 0 := by
  unfold nzs
  rw [List.take_succ_eq_append_getElem hj, List.filter_append, List.length_append]
  by_cases h : 0 < cs[j] <;> simp [h]
theorem mk_toList (l : List UInt8) : (⟨l.toArray⟩ : ByteArray).toList = l := by simp
theorem bytes_cell {w : World} {A : Nat → Prop} {a0 : Option Addr} {n cap k : Nat} {b : List UInt8} (h : BytesV w A (.slice a0 n cap) b) (hk : k < b.length) : ∃ x, a0 = some x ∧ w.cell? (x.add k) = some (.int .u8 ((b[k]'hk).toNat : Int)) := by
  obtain ⟨ao, cap, he, _, _, h5⟩ := h
  injection he with he1 _ _
  subst he1
  rcases h5 with ⟨_, h5, _⟩ | ⟨x, h5, _, h6⟩
  · subst h5; simp at hk
  · exact ⟨x, h5, h6 k hk⟩
theorem IsDisk.wide {w : World} {A A' : Nat → Prop} {p mb : Nat} {d : Dk} (h : IsDisk w A p mb d) (hA : ∀ k, A k → A' k) (hp : ¬ A' p ∧ ¬ A' mb) : IsDisk w A' p mb d := h.mono (Nat.le_refl _) rfl rfl (fun k hk _ => ⟨hA k hk, rfl⟩) hp
theorem NI.append' {d : Dk} {L k : Nat} {cs : List Nat} {b : List UInt8} (h : NI d L k cs) {j : Nat} (hb : b.length = L) (hj : j < cs.length) (hL : L ≤ 50) (hk : k < 40) : ∃ d', d.append (nmj j) b = (d', true) ∧ NI d' L (k + 1) (cs.set j (cs[j] + 1)) := by
  subst hb; exact h.append hj hL hk
theorem names_ret (a0 a1 : Option Addr) (len0 cap0 len1 cap1 : Nat) (w : World) (h0 : len0 ≤ 140737488351232) (h1 : len1 ≤ 140737488351232) (hbig : 50 < len1 ∨ 40 < len0) :
    Calls Try.prog 6 #[.slice a0 len0 cap0, .slice a1 len1 cap1] w fun e w' => e = .returned (.bool true) ∧ Kp [] w.heap.size w w' := by
  by_cases h : 50 < len1
  · have hd : decide (50 < len1) = true := decide_eq_true h
    have hd' : decide ((50 : Int) < (len1 : Int)) = true := decide_eq_true (by omega)
    go_enter Try.func6, Try.ntmps6
    go_wp2_with fail
    refine (lknown _).mono ?_
    rintro e w1 ⟨rfl, k1⟩
    go_wp2_with fail
    go_ret
    exact ⟨rfl, k1⟩
  · have hd : decide (50 < len1) = false := decide_eq_false h
    have hd' : decide ((50 : Int) < (len1 : Int)) = false := decide_eq_false (by omega)
    have hc : 40 < len0 := by omega
    have hc1 : decide (40 < len0) = true := decide_eq_true hc
    have hc2 : decide ((40 : Int) < (len0 : Int)) = true := decide_eq_true (by omega)
    go_enter Try.func6, Try.ntmps6
    go_wp2_with fail
    refine (lknown _).mono ?_
    rintro e w1 ⟨rfl, k1⟩
    go_wp2_with fail
    go_ret
    exact ⟨rfl, k1⟩
set_option maxHeartbeats 4000000 in
set_option maxRecDepth 100000 in
theorem names_main (a0 a1 : Option Addr) (len0 cap0 len1 cap1 : Nat) (w : World) (ps tx : List UInt8) (hl0 : ps.length = len0) (hl1 : tx.length = len1)
    (hP : BytesV w (fun k => k < w.heap.size) (.slice a0 len0 cap0) ps) (hT : BytesV w (fun k => k < w.heap.size) (.slice a1 len1 cap1) tx) (h0 : len0 ≤ 40) (h1 : len1 ≤ 50) :
    Calls Try.prog 6 #[.slice a0 len0 cap0, .slice a1 len1 cap1] w fun e w' => e = .returned (.bool true) ∧ Kp [] w.heap.size w w' := by
  have hd : decide (50 < len1) = false := decide_eq_false (by omega)
  have hd' : decide ((50 : Int) < (len1 : Int)) = false := decide_eq_false (by omega)
  have hc1 : decide (40 < len0) = false := decide_eq_false (by omega)
  have hc2 : decide ((40 : Int) < (len0 : Int)) = false := decide_eq_false (by omega)
  go_enter Try.func6, Try.ntmps6
  go_wp2_with fail
  refine (dNew (fun _ => False) 1048576 _ (by omega) ⟨by simp, by simp⟩).mono ?_
  rintro e w1 ⟨rfl, h1', k1⟩
  clear hd hd' hc1 hc2
  have h2 : IsDisk w1 (fun k => w1.heap.size < k) (w.heap.size + 1) w.heap.size (Dk.new 1048576) := h1'.wide (fun _ h => h.elim) (by have := h1'.lt; exact ⟨by omega, by omega⟩)
  go_wp2_with (at_make; go_must (refine wpList_make6 rfl _ _ rfl rfl rfl ?_; intro w2 hs2 hz2 k2))
  obtain ⟨sb, hsb⟩ : ∃ sb, sb = w1.heap.size := ⟨_, rfl⟩
  obtain ⟨A, hA⟩ : ∃ A : Nat → Prop, A = fun k => w1.heap.size < k := ⟨_, rfl⟩
  have h2' := h2.kp_ge k2
  have K2 := k1.trans (k2.shed (by simp) k1.size)
  have hw1 := h1'.lt
  rw [← hA] at h2'
  have hA1 : ∀ k, sb < k → A k := fun k hk => by rw [hA]; show w1.heap.size < k; omega
  have hA2 : ¬ A sb := by rw [hA]; show ¬ w1.heap.size < sb; omega
  rw [← hsb] at hs2 hz2 ⊢
  have hsw : w.heap.size + 1 < sb := by omega
  have hI0 : Hid (NI (Dk.new 1048576) len1 0 [0, 0, 0, 0, 0, 0] ∧ IsDisk w2 A (w.heap.size + 1) w.heap.size (Dk.new 1048576) ∧ SeenV w2 sb [0, 0, 0, 0, 0, 0] ∧ sb < w2.heap.size ∧ Kp [] w.heap.size w w2) := ⟨NI.start len1, h2', hs2, hz2, K2⟩
  clear hs2 hz2 K2 h2' h2 h1' k1 k2 hA hsb hw1
  go_loopw [7] (fun i wr => ∃ (k : Nat) (cs : List Nat) (d : Dk), k ≤ len0 ∧ i = .int .i64 (k : Int) ∧ Hid (NI d len1 k cs ∧ IsDisk wr A (w.heap.size + 1) w.heap.size d ∧ SeenV wr sb cs ∧ sb < wr.heap.size ∧ Kp [] w.heap.size w wr)) (fun i _ => len0 - (intOf i).toNat)
  case atStart => exact ⟨0, _, _, by omega, rfl, hI0⟩
  case round =>
    obtain ⟨k, cs, d, hk, rfl, HI⟩ := hrel
    obtain ⟨hN, hD, hS, hsz, hK⟩ := HI.out
    by_cases hlt : k < len0
    · have hPr := hP.kp hK (by simp)
      have hTr := hT.kp hK (by simp)
      obtain ⟨x, rfl, hx⟩ := bytes_cell hPr (show k < ps.length by omega)
      obtain ⟨c, hc⟩ : ∃ c, c = (ps[k]'(by omega)).toNat := ⟨_, rfl⟩
      rw [← hc] at hx
      have hc8 : c < 256 := by rw [hc]; exact UInt8.toNat_lt _
      have HC := Lib.hid hc
      clear hc
      obtain ⟨j, hj⟩ : ∃ j, j = c % 6 := ⟨_, rfl⟩
      have hj6 : j < 6 := by omega
      have hjc : 97 + (c : Int) % 6 = 97 + (j : Int) := by omega
      have hcv : (convert 22 9 (.slice (some ⟨wr.heap.size, 0, none⟩) 1 1)).run Try.prog (wr.alloc (.cells #[.int .u8 (97 + (c : Int) % 6)] 5)) = .ok (.string ⟨[97 + UInt8.ofNat j].toArray⟩) (wr.alloc (.cells #[.int .u8 (97 + (c : Int) % 6)] 5)) := by
        rw [hjc]; exact letter_conv (j := j) (by omega) wr 5
      have had := letter_add j
      obtain ⟨d', q, cs', e1, hqk, hN', hSS⟩ : ∃ d' q cs', d.append [102, 97 + UInt8.ofNat j] tx = (d', true) ∧ q ≤ k ∧ NI d' len1 (k + 1) cs' ∧ ∀ w', SeenV w' sb cs → (w'.cell? ⟨sb, c % 6, none⟩ = some (.int .i64 (q : Int)) ∧ w'.frozen? ⟨sb, c % 6, none⟩ = false) ∧ SeenV (w'.setCell ⟨sb, c % 6, none⟩ (.int .i64 ((q : Int) + 1))) sb cs' := by
        have H6 := hN.six
        have hjl : j < cs.length := by omega
        obtain ⟨d', e1, hN'⟩ := hN.append' (j := j) hl1 hjl h1 (by omega)
        exact ⟨d', cs[j], _, e1, hN.le _ (List.getElem_mem _), hN', fun w' hw' => by rw [← hj]; exact ⟨hw' j hjl, hw'.set j hjl (cs[j] + 1)⟩⟩
      have E1 := Lib.hid e1
      have HN' := Lib.hid hN'
      have HSS := Lib.hid hSS
      have HS := Lib.hid hS
      have K3 := Lib.hid (hK.alloc hK.size (.cells #[.int .u8 (97 + (c : Int) % 6)] 5))
      have h3 := Lib.hid (hD.kp_ge ((Kp.refl _ _ _).alloc (Nat.le_refl _) (.cells #[.int .u8 (97 + (c : Int) % 6)] 5)))
      have hT3 := Lib.hid (hT.kp K3.out (by simp))
      have hw1 := hD.lt.1
      have hw2 := hK.size
      clear e1 hN' hSS hjc hj hN hD hS hK hPr hTr
      go_wp2_with fail
      refine (dAppend A _ _ d [102, 97 + UInt8.ofNat j] tx _ _ _ h3.out (by simp [maxLen]) hT3.out (by simp) (by omega) (fun k hk => hA1 k (by simp at hk; omega))).mono ?_
      rintro e w4 ⟨rfl, h4, k4⟩
      rw [E1.out] at h4 ⊢
      have hS4 := (HS.out.kp ((Kp.refl ([] : List Nat) wr.heap.size wr).alloc (Nat.le_refl _) (.cells #[.int .u8 (97 + (c : Int) % 6)] 5)) hsz (by simp)).kp k4 (by simp; omega) (by intro h; simp at h; omega)
      have K4 := K3.out.trans (k4.shed (B' := w.heap.size) (by simp) (by have := K3.out.size; omega))
      have hz4 : sb < w4.heap.size := by have := k4.size; simp at this; omega
      obtain ⟨x', hxx, hx4⟩ := bytes_cell (hP.kp K4 (by simp)) (show k < ps.length by omega)
      injection hxx with hxx
      subst hxx
      rw [← HC.out] at hx4
      obtain ⟨⟨hs4, hs6⟩, hs5⟩ := HSS.out w4 hS4
      have h5 := h4.kp ((Kp.refl [sb] w4.heap.size w4).setCell (b := sb) (.inr (by simp)) (c % 6) none (.int .i64 ((q : Int) + 1))) (Nat.le_refl _) (by simp; exact ⟨hA2, by omega, by omega⟩)
      have K5 := K4.setCell (b := sb) (.inl (by omega)) (c % 6) none (.int .i64 ((q : Int) + 1))
      have hz5 : sb < (w4.setCell ⟨sb, c % 6, none⟩ (.int .i64 ((q : Int) + 1))).heap.size := by simpa [World.setCell] using hz4
      have H5 : Hid (NI d' len1 (k + 1) cs' ∧ IsDisk (w4.setCell ⟨sb, c % 6, none⟩ (.int .i64 ((q : Int) + 1))) A (w.heap.size + 1) w.heap.size d' ∧ SeenV (w4.setCell ⟨sb, c % 6, none⟩ (.int .i64 ((q : Int) + 1))) sb cs' ∧ sb < (w4.setCell ⟨sb, c % 6, none⟩ (.int .i64 ((q : Int) + 1))).heap.size ∧ Kp [] w.heap.size w (w4.setCell ⟨sb, c % 6, none⟩ (.int .i64 ((q : Int) + 1)))) := ⟨HN'.out, h5, hs5, hz5, K5⟩
      clear h5 hs5 hz5 K5 hS4 h3 h4 k4 K3 hT3 hcv had hx K4
      go_wp2_with fail
      go_roundw
      case rel => exact ⟨k + 1, _, _, by omega, by go_num, H5⟩
      case measure => simp [intOf]; omega
    · have hkl : k = len0 := by omega
      subst hkl
      have hw1 := hD.lt.1
      have hw2 := hK.size
      go_wp2_with fail
      refine (dNames A _ _ d _ hD).mono ?_
      rintro e w3 ⟨v, rfl, ho3, k3⟩
      obtain ⟨ao, cap3, rfl, hlen3, hcap3, hcap4, hrow⟩ := row_cells ho3
      obtain ⟨nn, hnn⟩ : ∃ nn, nn = d.files.length := ⟨_, rfl⟩
      rw [← hnn] at hlen3 hcap3 ⊢
      have h6 := hN.six
      have hnz : nn = nzs cs := hnn.trans hN.few
      have hnn6 : nn ≤ 6 := by have := nzs_le cs; omega
      have hD3 := hD.kp_ge k3
      have hS3 := hS.kp k3 hsz (by simp)
      have K3 := hK.trans (k3.mono (by simp) hw2)
      have hz3 : sb < w3.heap.size := by have := k3.size; omega
      have HN := Lib.hid hN
      have HROW := Lib.hid hrow
      have H3 : Hid (IsDisk w3 A (w.heap.size + 1) w.heap.size d ∧ SeenV w3 sb cs ∧ Kp [] w.heap.size w w3) := ⟨hD3, hS3, K3⟩
      have HI0 : Hid (Kp [] w3.heap.size w3 w3) := Kp.refl _ _ _
      clear hD3 hS3 K3 hrow hN hD hS hK k3 ho3 hnn hlen3 HI hI0
      go_wp2_with fail
      go_loopw [9, 10] (fun s i wr => ∃ j : Nat, j ≤ 6 ∧ s = .int .i64 ((nzs (cs.take j) : Nat) : Int) ∧ i = .int .i64 (j : Int) ∧ Hid (Kp [] w3.heap.size w3 wr)) (fun _ i _ => 6 - (intOf i).toNat)
      case atStart => exact ⟨0, by omega, rfl, rfl, HI0⟩
      case round =>
        obtain ⟨j, hj, rfl, rfl, HI⟩ := hrel
        by_cases hj6 : j < 6
        · have hcv := letter_conv (j := j) (by omega) wr 5
          have had := letter_add j
          obtain ⟨q, hq⟩ : ∃ q, q = cs[j]'(by omega) := ⟨_, rfl⟩
          obtain ⟨hol, hth⟩ := HN.out.old_len (j := j) (by omega)
          have hqk : q ≤ 40 := by have := HN.out.le _ (List.getElem_mem (show j < cs.length by omega)); omega
          rw [← hq] at hol hth
          have HOL : Hid ((d.old [102, 97 + UInt8.ofNat j]).b.length = q * len1) := hol
          have HTH : Hid (d.there [102, 97 + UInt8.ofNat j] = decide (0 < q)) := hth
          have hzz : w3.heap.size ≤ wr.heap.size := HI.out.size
          have HA : Hid (Kp [] wr.heap.size wr (wr.alloc (.cells #[.int .u8 (97 + (j : Int))] 5))) := (Kp.refl _ _ _).alloc (Nat.le_refl _) _
          have HD : Hid (IsDisk (wr.alloc (.cells #[.int .u8 (97 + (j : Int))] 5)) A (w.heap.size + 1) w.heap.size d) := ((H3.out.1).kp HI.out (Nat.le_refl _) (by simp)).kp_ge HA.out
          have HQ := Lib.hid hq
          clear hol hth hq
          go_wp2_with fail
          refine (dRead A _ _ d [102, 97 + UInt8.ofNat j] _ HD.out (by simp [maxLen])).mono ?_
          rintro e w5 ⟨v, rfl, ho5, k5⟩
          rw [HTH.out]
          obtain ⟨so5, n5, sc5, rfl, hn5⟩ := own_shape ho5
          rw [HOL.out] at hn5
          have hn50 := hn5.out
          have hm0 : n5 ≤ 2000 := by rw [hn50]; exact Nat.le_trans (Nat.mul_le_mul hqk h1) (by decide)
          have HM : Hid (((q : Int) * (len1 : Int)) = (n5 : Int)) := by rw [hn50]; show _ = _; simp
          obtain ⟨hs5, -⟩ := (H3.out.2.1.kp ((HI.out).trans ((HA.out.trans (k5.mono (by simp) (by simp))).mono (by simp) hzz)) hz3 (by simp)) j (by omega)
          rw [← HQ.out] at hs5
          have HK : Hid (Kp [] w3.heap.size w3 w5) := (HI.out).trans ((HA.out.trans (k5.mono (by simp) (by simp))).mono (by simp) hzz)
          have hnzs : nzs (cs.take (j + 1)) = nzs (cs.take j) + if 0 < q then 1 else 0 := by
            rw [HQ.out]; exact nzs_take cs j (by omega)
          have hnle : nzs (cs.take j) ≤ 6 := by have := nzs_le (cs.take j); simp at this; omega
          clear ho5 k5 hn5 hn50 hcv had
          have hmw : IntKind.i64.wrap ((q : Int) * (len1 : Int)) = (n5 : Int) := by rw [HM.out]; exact IntWalk.i64_in _ (by omega)
          by_cases hq0 : 0 < q
          · have hd1 : decide (0 < q) = true := decide_eq_true hq0
            have hd2 : decide ((0 : Int) < (q : Int)) = true := decide_eq_true (by omega)
            rw [if_pos hq0] at hnzs
            have HNZ := Lib.hid hnzs
            clear hnzs
            rw [hd1]
            go_wp2_with fail
            go_roundw
            case rel => exact ⟨j + 1, by omega, by rw [HNZ.out]; go_num, by go_num, HK⟩
            case measure => simp [intOf]; omega
          · have hq1 : q = 0 := by omega
            have hn0 : n5 = 0 := by have := HM.out; rw [hq1] at this; simp at this; omega
            subst hn0
            clear hmw HM
            clear HQ HOL HTH
            subst hq1
            rw [if_neg (by omega)] at hnzs
            have HNZ := Lib.hid hnzs
            clear hnzs
            rw [show decide (0 < 0) = false from rfl]
            go_wp2_with fail
            go_roundw
            case rel => exact ⟨j + 1, by omega, by rw [HNZ.out]; rfl, by go_num, HK⟩
            case measure => simp [intOf]; omega
        · have hj6' : j = 6 := by omega
          subst hj6'
          have ht : cs.take 6 = cs := List.take_of_length_le (by omega)
          rw [ht]
          have HR : Hid (Kp [] w3.heap.size w3 wr) := HI
          go_wp2_with fail
          have hR0 : Hid (Kp [] w3.heap.size w3 wr) := HR
          go_loopw [13] (fun i wx => ∃ m : Nat, (m = 0 ∨ m + 1 ≤ nzs cs) ∧ i = .int .i64 ((m : Int) + 1) ∧ Hid (Kp [] w3.heap.size w3 wx)) (fun i _ => 7 - (intOf i).toNat)
          case atStart => exact ⟨0, .inl rfl, rfl, hR0⟩
          case round =>
            obtain ⟨m, hm, rfl, HI⟩ := hrel
            by_cases hm1 : m + 1 < nzs cs
            · have hd3 : decide ((m : Int) + 1 < ((nzs cs : Nat) : Int)) = true := decide_eq_true (by omega)
              have hfl := HN.out.few
              obtain ⟨g, hg, hg2, hgc⟩ : ∃ g, ao = some ⟨g, 0, none⟩ ∧ g < w3.heap.size ∧ (∀ j (hj : j < ((names d.files).map encStr).length), w3.cell? ⟨g, j, none⟩ = some (((names d.files).map encStr)[j]'hj)) := by
                rcases HROW.out with ⟨_, h⟩ | ⟨g, h1, h2, h3, h4, h5⟩
                · exfalso
                  have : ((names d.files).map encStr).length = 0 := by rw [h]; rfl
                  rw [List.length_map] at this
                  unfold names at this
                  rw [List.length_map] at this
                  omega
                · exact ⟨g, h1, h3, h4⟩
              subst hg
              have hlenN : ((names d.files).map encStr).length = nzs cs := by simp [names, hfl]
              have hx := hgc m (by omega)
              have hy := hgc (m + 1) (by omega)
              have hr := HN.out.ok.rising
              obtain ⟨X, hX⟩ : ∃ X : ByteArray, X = ⟨(d.files[m]'(by omega)).name.toArray⟩ := ⟨_, rfl⟩
              obtain ⟨Y, hY⟩ : ∃ Y : ByteArray, Y = ⟨(d.files[m + 1]'(by omega)).name.toArray⟩ := ⟨_, rfl⟩
              have hL : Op.bytesLess X.toList Y.toList = true := by
                rw [hX, hY, mk_toList, mk_toList]
                have := List.pairwise_iff_getElem.1 hr m (m + 1) (by omega) (by omega) (by omega)
                rw [bytesLess_eq]
                exact decide_eq_true (bb_lt this)
              have hx1 : wr.cell? ⟨g, m, none⟩ = some (.string X) := by
                rw [HI.out.cell (p := ⟨g, m, none⟩) hg2 (by simp), hx, hX]; simp [names]
              have hy1 : wr.cell? ⟨g, m + 1, none⟩ = some (.string Y) := by
                rw [HI.out.cell (p := ⟨g, m + 1, none⟩) hg2 (by simp), hy, hY]; simp [names]
              have hnle : nzs cs ≤ 6 := by omega
              clear hx hy hgc hr hX hY hfl hlenN
              have hi1 : IntKind.i64.wrap ((m : Int) + 1 - 1) = (m : Int) := by rw [show (m : Int) + 1 - 1 = (m : Int) by omega]; exact IntWalk.i64_in _ (by omega)
              have hi2 : ((m : Int) + 1).toNat = m + 1 := by omega
              have hi3 : (m : Int) < ((nzs cs : Nat) : Int) := by omega
              have hi4 : (m : Int) + 1 < ((nzs cs : Nat) : Int) := by omega
              have hi5 : 0 ≤ (m : Int) + 1 := by omega
              have hi6 : 0 ≤ (m : Int) := by omega
              go_wp2_with fail
              go_quiet (fail)
              clear hi1 hi2
              go_wp2_with fail
              have HK3 : Hid (Kp [] w3.heap.size w3 (wr.drewN nq)) := HI.out.drew nq
              go_roundw
              case rel => exact ⟨m + 1, .inr (by omega), by go_num, HK3⟩
              case measure => simp [intOf]; omega
            · have hd3 : decide ((m : Int) + 1 < ((nzs cs : Nat) : Int)) = false := decide_eq_false (by omega)
              obtain ⟨u, hu⟩ : ∃ u, u = k * len1 := ⟨_, rfl⟩
              have hu2 : u ≤ 2000 := by rw [hu]; exact Nat.le_trans (Nat.mul_le_mul h0 h1) (by decide)
              have hus : used d.files = u := HN.out.used.trans hu.symm
              have hmw : IntKind.i64.wrap ((k : Int) * (len1 : Int)) = (u : Int) := by rw [show (k : Int) * (len1 : Int) = (u : Int) by rw [hu]; simp]; exact IntWalk.i64_in _ (by omega)
              have HUS := Lib.hid hus
              have hzz : w3.heap.size ≤ wr.heap.size := HI.out.size
              have HD : Hid (IsDisk wr A (w.heap.size + 1) w.heap.size d) := (H3.out.1).kp HI.out (Nat.le_refl _) (by simp)
              have HK4 : Hid (Kp [] w.heap.size w wr) := H3.out.2.2.trans (HI.out.mono (by simp) (by have := H3.out.2.2.size; omega))
              clear hu hus
              go_wp2_with fail
              refine (lknown _).mono ?_
              rintro e w5 ⟨rfl, k5⟩
              have hD5 := HD.out.kp_ge k5
              have HK5 : Hid (Kp [] w.heap.size w w5) := HK4.out.trans (k5.mono (by simp) HK4.out.size)
              go_wp2_with fail
              refine (dUsed A _ _ d _ hD5).mono ?_
              rintro e w6 ⟨rfl, k6⟩
              rw [HUS.out]
              have HK6 : Hid (Kp [] w.heap.size w w6) := HK5.out.trans (k6.mono (by simp) HK5.out.size)
              go_wp2_with fail
              go_ret
              exact ⟨rfl, HK6.out⟩
theorem diskNames_row (a0 : Option Addr) (len0 cap0 : Nat) (z0 : List Int) (a1 : Option Addr) (len1 cap1 : Nat) (z1 : List Int) (w : World)
    (w0 : (a0 = none ∧ len0 = 0 ∧ cap0 = 0 ∧ z0 = []) ∨ ∃ x, a0 = some x ∧ len0 ≤ cap0 ∧ cap0 ≤ maxLen ∧ z0.length = cap0 ∧ (∀ i, i < z0.length → w.cell? (x.add i) = some (.int .u8 (z0.getD i 0))) ∧ ∀ n ∈ z0, (Lit.int .u8 n).wf = true) (y0 : len0 * 1 ≤ 140737488351232)
    (w1 : (a1 = none ∧ len1 = 0 ∧ cap1 = 0 ∧ z1 = []) ∨ ∃ x, a1 = some x ∧ len1 ≤ cap1 ∧ cap1 ≤ maxLen ∧ z1.length = cap1 ∧ (∀ i, i < z1.length → w.cell? (x.add i) = some (.int .u8 (z1.getD i 0))) ∧ ∀ n ∈ z1, (Lit.int .u8 n).wf = true) (y1 : len1 * 1 ≤ 140737488351232) :
    Calls Try.prog 6 #[.slice a0 len0 cap0, .slice a1 len1 cap1] w fun e w' => e = .returned (.bool true) ∧ Below w.heap.size w w' := by
  obtain ⟨a, hla, hA⟩ := row_bytes w0
  obtain ⟨b, hlb, hB⟩ := row_bytes w1
  by_cases hbig : 50 < len1 ∨ 40 < len0
  · exact (names_ret a0 a1 len0 cap0 len1 cap1 w (by omega) (by omega) hbig).mono fun e w' ⟨h1, h2⟩ => ⟨h1, h2.below⟩
  · exact (names_main a0 a1 len0 cap0 len1 cap1 w a b hla hlb hA hB (by omega) (by omega)).mono fun e w' ⟨h1, h2⟩ => ⟨h1, h2.below⟩
end Go.Proofs.Ytdabflkejhoghaa.Hand
