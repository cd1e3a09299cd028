/- The reference's disk: without. -/
import Derived.Below
import Derived.Deep.Draws
import Derived.Deep.AppendLies
import Derived.Maps.AppendAt
import Derived.OwnWalk
import Derived.Laws.BytesArg
import Derived.Laws.MakeOwn
import Derived.Laws.OwnMore
import Derived.Deep.OwnRows
import Derived.Tactics
import Derived.Lib.ConvBytes
import Derived.Laws.Slices
import Derived.WalkKit
import Derived.KernelRfl
import Derived.RowKit3
import Derived.Deep.LoopGhost
import Derived.Deep.QuietTactic
import Derived.BigQuiet
import Derived.WideLaws
import Derived.Deep.DeepCutAuto
import Derived.Deep.CutBlock
import Derived.Deep.RegionHeld3
import Derived.Laws.Rows
import Derived.Lib.AppendStr
import Derived.ArgAppend
import Derived.Laws.IdiomCopy
import Derived.OrdersHeld
import Derived.Laws.BitsLemmas
import Derived.RowKit
import Derived.Outline
import Derived.Maps.Own
import Derived.Maps.OwnOps
import Derived.Maps.OwnSet
import Derived.Maps.Views
import Derived.Maps.RangeWalk
import Derived.Maps.Ext
import Derived.RangeFuncOwn
import Derived.OneCell
import Derived.Deep.DeepMust
import Derived.Lib.Hide
import Derived.StillTailTactics
import Derived.Laws.AppendOwnNone
import Derived.WalkMore
import Derived.Lib.SlBytesConst
import Derived.WalkLawsBesides
import Derived.Laws.BitsAllLaws
import Derived.Test.YtdabflkejhoghaaGreatHRu
namespace Go.Proofs.YtdabflkejhoghaaGreat.Hand
open Go Go.RowKit Go.Maps Go.WideMaps
set_option linter.unusedVariables false
set_option linter.unusedSimpArgs false
theorem row_base {w : World} {B B' E size n : Nat} {v : Value} {xs : List Value} (h : w.ownsRow B E size v n xs) (hB : B' ≤ B) : w.ownsRow B' E size v n xs := by
  obtain ⟨h1, h2⟩ := h
  refine ⟨h1, ?_⟩
  rcases h2 with h2 | ⟨g, cap, cur, hv, hg, h3⟩
  · exact .inl h2
  · exact .inr ⟨g, cap, cur, hv, by omega, h3⟩
theorem row_ge {w : World} {B E size n : Nat} {v : Value} {xs : List Value} (h : w.ownsRow B E size v n xs) : ∀ k, v.ownBlock = some k → B ≤ k := by
  intro k hk
  rcases h.2 with ⟨hv, _⟩ | ⟨g, cap, cur, hv, hg, _⟩
  · rw [hv] at hk; cases hk
  · rw [hv] at hk
    have hk' : g = k := by simpa [Value.ownBlock] using hk
    omega
/-- files of w0, in a row of one's own -/
def FilesO (w0 w : World) (base : Nat) (v : Value) (l : List F) : Prop := ∃ hs : List Hf, l = hs.map (·.1) ∧ w.ownsRow base 65 3 v l.length (fcells hs) ∧ ∀ h ∈ hs, BytesV w0 (fun _ => True) h.2 h.1.b
theorem FilesO.nil (w0 w : World) (base : Nat) : FilesO w0 w base (.slice none 0 0) [] := ⟨[], rfl, ⟨rfl, .inl ⟨rfl, rfl⟩⟩, by simp⟩
theorem FilesO.ref {w0 w : World} {base : Nat} {v : Value} {l : List F} (h : FilesO w0 w base v l) (hk : Kp [] w0.heap.size w0 w) : FilesR w 0 v l := by
  obtain ⟨hs, h1, h2, h3⟩ := h
  exact ⟨hs, h1, row_base h2 (Nat.zero_le _), fun h hh => (h3 h hh).kp hk (by simp)⟩
theorem FilesO.kp {w0 w w' : World} {base : Nat} {v : Value} {l : List F} (h : FilesO w0 w base v l) (hk : Kp [] w.heap.size w w') : FilesO w0 w' base v l := by
  obtain ⟨hs, h1, h2, h3⟩ := h
  exact ⟨hs, h1, ownsRow_kept h2 hk, h3⟩
theorem FilesO.kpL {w0 w w' : World} {base : Nat} {v : Value} {l : List F} (h : FilesO w0 w base v l) {L : List Nat} (hk : Kp L w.heap.size w w') (hL : ∀ k ∈ L, k < base) : FilesO w0 w' base v l := by
  obtain ⟨hs, h1, h2, h3⟩ := h
  refine ⟨hs, h1, ⟨h2.1, ?_⟩, h3⟩
  rcases h2.2 with h4 | ⟨g, cap, cur, hv, hg, hb, h5⟩
  · exact .inl h4
  · exact .inr ⟨g, cap, cur, hv, hg, (hk.block g (Array.getElem?_eq_some_iff.1 hb).1 (fun e => by have := hL g e; omega)).trans hb, h5⟩
theorem infoF : (Tryz.prog.info? 65).map (fun i => (i.zero, i.size, i.bytes)) = some (some (.agg #[.string ⟨#[]⟩, .slice none 0 0, .int .i64 0]), 3, 48) := by kernel_rfl
theorem fcells_one : ∀ {hs : List Hf}, (∀ h ∈ hs, ∃ ao n c, h.2 = .slice ao n c) → ∀ u ∈ fcells hs, u.oneCell' = true
  | [], _, u, hu => by cases hu
  | h :: l, hl, u, hu => by
    simp only [fcells, List.mem_cons] at hu
    rcases hu with rfl | rfl | rfl | hu
    · rfl
    · obtain ⟨ao, n, c, e⟩ := hl h (by simp); rw [e]; rfl
    · rfl
    · exact fcells_one (fun h hh => hl h (by simp [hh])) u hu
theorem wpList_appF {w0 w : World} {ops : Array Oper} {rest : List Oper} {o : Oper} {a : Act} {Q : Exit → Act → World → Prop} (hg : o.guard = none) (s x : Operand)
    (ho : o.op = .call { callee := .builtin .append, args := #[s, x], argTypes := #[29, 29] }) (base : Nat) (v : Value) (l : List F) (hs : a.eval s = v) (hown : FilesO w0 w base v l)
    (ad : Addr) (c : Nat) (ks : List Hf) (hx : a.eval x = .slice (some ad) ks.length c) (hks : ∀ j u, (fcells ks)[j]? = some u → w.cell? (ad.add j) = some u) (hkb : ∀ h ∈ ks, BytesV w0 (fun _ => True) h.2 h.1.b) (hlen : l.length + ks.length ≤ 1000) (hbase : base ≤ w.heap.size)
    (hK : ∀ v' w', FilesO w0 w' base v' (l ++ ks.map (·.1)) → Kp [] base w w' → wpList Tryz.prog ops Q rest (a.put o.dst v') w') : wpList Tryz.prog ops Q (o :: rest) a w := by
  obtain ⟨i0, hi, hz0, hz1, hz2⟩ := info_parts8 infoF
  obtain ⟨hs', rfl, h2, h3⟩ := hown
  refine wpList_append_own w hg s x 29 ho base 65 i0 (.agg #[.string ⟨#[]⟩, .slice none 0 0, .int .i64 0]) 3 48 Tryz.underlying29 hi hz0 hz1 hz2 rfl (by decide) v _ (fcells hs') hs h2 ad ks.length c (fcells ks) hx (fcells_len ks) hks
    (fcells_one fun h hh => by obtain ⟨ao, cp, e, _⟩ := hkb h hh; exact ⟨_, _, _, e⟩) (by unfold maxLen; omega) (by omega) hbase (fun v' w' e1 e2 _ => hK v' w' ⟨hs' ++ ks, by simp, ?_, fun h hh => ?_⟩ (kp_grown e2 (row_ge h2) hbase))
  · rw [fcells_app]; simpa using e1
  · rcases List.mem_append.1 hh with hh | hh
    · exact h3 h hh
    · exact hkb h hh
theorem one_news (h : Hf) (w : World) : ∀ j u, (fcells [h])[j]? = some u → (w.alloc (.cells #[.string ⟨h.1.name.toArray⟩, h.2, .int .i64 (h.1.lasts : Int)] 65)).cell? ((⟨w.heap.size, 0, none⟩ : Addr).add j) = some u := by
  intro j u hu
  have e : (⟨w.heap.size, 0, none⟩ : Addr).add j = ⟨w.heap.size, j, none⟩ := by unfold Addr.add; split <;> simp_all
  rw [e, Lib.cell_of_heap (World.alloc_heap_new w _), ← hu]
  match j, hu with
  | 0, _ => rfl
  | 1, _ => rfl
  | 2, _ => rfl
  | j + 3, hu => simp [fcells] at hu
theorem set5 {w : World} {b r : Nat} (hne : b ≠ r) {x0 x1 x2 x3 x4 : Value} {T : TypeId} (h : w.heap[r]? = some (.cells #[x0, x1, x2, x3, x4] T)) (u v0 v1 v2 v3 v4 : Value) :
    ((((((w.setCell ⟨b, 0, none⟩ u).setCell ⟨r, 0, none⟩ v0).setCell ⟨r, 1, none⟩ v1).setCell ⟨r, 2, none⟩ v2).setCell ⟨r, 3, none⟩ v3).setCell ⟨r, 4, none⟩ v4).heap[r]? = some (.cells #[v0, v1, v2, v3, v4] T) := by
  simp [World.setCell, Array.getElem?_modify, h, hne]
theorem infoT1 {P : Program} {t : TypeId} {n : Nat} (h : (P.info? t).map (·.size) = some n) {cs : Array Value} (hc : cs.size = n) : (P.info? t).map (·.size) = some cs.size := by rw [h, hc]
theorem delBy_take {l : List F} {j : Nat} (hj : j < l.length) (s : List UInt8) : delBy F.name s (l.take (j + 1)) = delBy F.name s (l.take j) ++ if l[j].name = s then [] else [l[j]] := by
  unfold delBy
  rw [List.take_succ_eq_append_getElem hj, List.filter_append]
  by_cases h : l[j].name = s <;> simp [h]
theorem FilesO.shape {w0 w : World} {base : Nat} {v : Value} {l : List F} (h : FilesO w0 w base v l) : ∃ ao cap, v = .slice ao l.length cap ∧ l.length ≤ cap ∧ cap ≤ maxLen := by
  obtain ⟨hs, h1, ⟨h2, h3⟩, _⟩ := h
  rcases h3 with ⟨hv, hn⟩ | ⟨g, cap, cur, hv, _, _, h4, h5, _⟩
  · exact ⟨none, 0, by rw [hv, hn], by omega, by decide⟩
  · exact ⟨_, cap, hv, h4, h5⟩
theorem FilesO.at {w0 w : World} {base n cap : Nat} {ao : Option Addr} {l : List F} (h : FilesO w0 w base (.slice ao n cap) l) (j : Nat) (hj : j < l.length) : ∃ g vb, ao = some ⟨g, 0, none⟩ ∧ base ≤ g ∧ g < w.heap.size ∧ w.cell? ⟨g, j * 3, none⟩ = some (.string ⟨l[j].name.toArray⟩) ∧ w.cell? ⟨g, j * 3 + 1, none⟩ = some vb ∧ w.cell? ⟨g, j * 3 + 2, none⟩ = some (.int .i64 (l[j].lasts : Int)) ∧ BytesV w0 (fun _ => True) vb l[j].b := by
  obtain ⟨hs, rfl, ⟨h2, h3⟩, h4⟩ := h
  have hj' : j < hs.length := by simpa using hj
  rcases h3 with ⟨hv, hn⟩ | ⟨g, cap', cur, hv, hg, hb, h5, h6, h7, h8⟩
  · omega
  · injection hv with hv _ _
    have hc : ∀ i, i < 3 * hs.length → w.cell? ⟨g, i, none⟩ = (fcells hs)[i]? := by
      intro i hi
      rw [Lib.cell_of_heap hb, ← Array.getElem?_toList, ← h8, List.getElem?_take_of_lt (by simp; omega)]
    obtain ⟨e1, e2, e3⟩ := fcells_at hs j hj'
    rw [show 3 * j = j * 3 by omega] at e1 e2 e3
    refine ⟨g, hs[j].2, hv, hg, (Array.getElem?_eq_some_iff.1 hb).1, ?_, ?_, ?_, ?_⟩
    · rw [hc _ (by omega), e1]; simp
    · rw [hc _ (by omega), e2]
    · rw [hc _ (by omega), e3]; simp
    · simpa using h4 hs[j] (List.getElem_mem _)
theorem FilesO.base {w0 w : World} {B B' : Nat} {v : Value} {l : List F} (h : FilesO w0 w B v l) (hB : B' ≤ B) : FilesO w0 w B' v l := by
  obtain ⟨hs, h1, h2, h3⟩ := h
  exact ⟨hs, h1, row_base h2 hB, h3⟩
set_option maxHeartbeats 800000 in
set_option maxRecDepth 100000 in
theorem rwithoutO (w0 w : World) (fv : Value) (files : List F) (room left : Int) (fs dead : Bool) (s : List UInt8) (hf : FilesO w0 w 0 fv files) (hm8' : files.length ≤ 8) :
    Calls Tryz.prog 70 #[.agg #[fv, .int .i64 room, .bool fs, .int .i64 left, .bool dead], .string ⟨s.toArray⟩] w fun e w' => ∃ fv', e = .returned (.agg #[fv', .int .i64 room, .bool fs, .int .i64 left, .bool dead]) ∧ FilesO w0 w' w.heap.size fv' (delBy F.name s files) ∧ Kp [] w.heap.size w w' := by
  obtain ⟨ao, cap, rfl, hcap1, hcap2⟩ := hf.shape
  obtain ⟨m, hm⟩ : ∃ m, m = files.length := ⟨_, rfl⟩
  have hm8 : m ≤ 8 := by omega
  have HF : Hid (FilesO w0 w 0 (.slice ao m cap) files) := by rw [hm]; exact hf
  have HM := Lib.hid hm
  rw [← hm]
  clear hf hm hcap1 hm8'
  go_enter Tryz.func70, Tryz.ntmps70
  go_wp2_with fail
  obtain ⟨W2, hW2⟩ : ∃ W2, W2 = (w.alloc (.cells #[.slice ao m cap, .int .i64 room, .bool fs, .int .i64 left, .bool dead] 31)).alloc (.cells #[.slice none 0 0, .int .i64 0, .bool false, .int .i64 0, .bool false] 31) := ⟨_, rfl⟩
  rw [← hW2]
  have hz2 : W2.heap.size = w.heap.size + 2 := by rw [hW2]; simp
  have hb2 : W2.heap[w.heap.size]? = some (.cells #[.slice ao m cap, .int .i64 room, .bool fs, .int .i64 left, .bool dead] 31) := by
    rw [hW2]; exact (Below.heap_alloc _ _ _ (by simp)).trans (World.alloc_heap_new w _)
  have hr2 : W2.heap[w.heap.size + 1]? = some (.cells #[.slice none 0 0, .int .i64 0, .bool false, .int .i64 0, .bool false] 31) := by
    rw [hW2]; exact new_at _ _ _ (by simp)
  have HK2 : Hid (Kp [] w.heap.size w W2) := by rw [hW2]; exact kp2 _ _ _
  have HI0 : Hid (FilesO w0 W2 (w.heap.size + 2) (.slice none 0 0) (delBy F.name s (files.take 0)) ∧ Kp [] (w.heap.size + 2) W2 W2) := ⟨FilesO.nil _ _ _, Kp.refl _ _ _⟩
  clear hW2
  have HB2 := Lib.hid hb2
  have HR2 := Lib.hid hr2
  clear hb2 hr2
  go_loopw [5, 6] (fun l i wr => ∃ (j : Nat) (lv : Value), j ≤ m ∧ lv = l ∧ i = .int .i64 (j : Int) ∧ Hid (FilesO w0 wr (w.heap.size + 2) lv (delBy F.name s (files.take j)) ∧ Kp [] (w.heap.size + 2) W2 wr)) (fun _ i _ => m - (intOf i).toNat)
  case atStart => exact ⟨0, _, by omega, rfl, rfl, HI0⟩
  case round =>
    obtain ⟨j, lv, hj, rfl, rfl, HI⟩ := hrel
    have hsz := HI.out.2.size
    have hb0 : wr.cell? ⟨w.heap.size, 0, none⟩ = some (.slice ao m cap) := by
      rw [Lib.cell_of_heap ((HI.out.2.block w.heap.size (by omega) (by simp)).trans HB2.out)]; rfl
    by_cases hlt : j < m
    · have hjd : j < files.length := by rw [← HM.out]; exact hlt
      obtain ⟨g, vb, rfl, -, hg, c0, c1, c2, hvb⟩ := HF.out.at j hjd
      have HV := Lib.hid hvb
      obtain ⟨ab, capb, rfl, -, -, -⟩ := hvb
      have HKw : Hid (Kp [] w.heap.size w wr) := HK2.out.trans (HI.out.2.mono (by simp) (by omega))
      have d0 := (HKw.out.cell (p := ⟨g, j * 3, none⟩) hg (by simp)).trans c0
      have d1 := (HKw.out.cell (p := ⟨g, j * 3 + 1, none⟩) hg (by simp)).trans c1
      have d2 := (HKw.out.cell (p := ⟨g, j * 3 + 2, none⟩) hg (by simp)).trans c2
      clear c0 c1 c2
      have HD := Lib.hid (delBy_take hjd s)
      obtain ⟨f, hfe⟩ : ∃ f, f = files[j] := ⟨_, rfl⟩
      rw [← hfe] at d0 d1 d2 HD HV
      clear hfe
      by_cases hs : f.name = s
      · have hbe : (f.name == s) = true := by simpa using hs
        have HI2 : Hid (FilesO w0 wr (w.heap.size + 2) lv (delBy F.name s (files.take (j + 1))) ∧ Kp [] (w.heap.size + 2) W2 wr) := by
          have e := HD.out
          rw [if_pos hs, List.append_nil] at e
          rw [e]; exact HI.out
        go_wp2_with fail
        go_roundw
        case rel => exact ⟨j + 1, _, by omega, rfl, by go_num, HI2⟩
        case measure => simp [intOf]; omega
      · have hbe : (f.name == s) = false := by simpa using hs
        have HFD : Hid (FilesO w0 (wr.alloc (.cells #[.string ⟨f.name.toArray⟩, .slice ab f.b.length capb, .int .i64 (f.lasts : Int)] 65)) (w.heap.size + 2) lv (delBy F.name s (files.take j)) ∧ Kp [] (w.heap.size + 2) W2 (wr.alloc (.cells #[.string ⟨f.name.toArray⟩, .slice ab f.b.length capb, .int .i64 (f.lasts : Int)] 65))) := ⟨HI.out.1.kp ((Kp.refl _ _ _).alloc (Nat.le_refl _) _), HI.out.2.alloc (by omega) _⟩
        have hlen : (delBy F.name s (files.take j)).length ≤ 8 := Nat.le_trans (List.length_filter_le _ _) (by simp; omega)
        go_wp2_with (at_builtin; go_must (refine wpList_appF rfl _ _ rfl (w.heap.size + 2) _ _ rfl HFD.out.1 ⟨wr.heap.size, 0, none⟩ 1 [(f, .slice ab f.b.length capb)] rfl (one_news _ _) (by simpa using HV.out) (by simp; omega) (by simp; omega) ?_; intro lv' w4 hl4 k4))
        have HI2 : Hid (FilesO w0 w4 (w.heap.size + 2) lv' (delBy F.name s (files.take (j + 1))) ∧ Kp [] (w.heap.size + 2) W2 w4) := by
          have e := HD.out
          rw [if_neg hs] at e
          rw [e]; exact ⟨hl4, HFD.out.2.trans k4⟩
        go_roundw
        case rel => exact ⟨j + 1, _, by omega, rfl, by go_num, HI2⟩
        case measure => simp [intOf]; omega
    · have hjm : j = m := by omega
      subst hjm
      have ht : files.take j = files := by rw [HM.out]; exact List.take_length
      have HI2 : Hid (FilesO w0 wr (w.heap.size + 2) lv (delBy F.name s files) ∧ Kp [] (w.heap.size + 2) W2 wr) := by rw [ht] at HI; exact HI
      have hbx := (HI.out.2.block w.heap.size (by omega) (by simp)).trans HB2.out
      have hrx := (HI.out.2.block (w.heap.size + 1) (by omega) (by simp)).trans HR2.out
      have HBX := Lib.hid hbx
      have HRX := Lib.hid hrx
      obtain ⟨lo, lcap, hlv, -, -⟩ := HI2.out.1.shape
      subst hlv
      have e1 : wr.cell? ⟨w.heap.size, 1, none⟩ = some (.int .i64 room) := by rw [Lib.cell_of_heap hbx]; rfl
      have e2 : wr.cell? ⟨w.heap.size, 2, none⟩ = some (.bool fs) := by rw [Lib.cell_of_heap hbx]; rfl
      have e3 : wr.cell? ⟨w.heap.size, 3, none⟩ = some (.int .i64 left) := by rw [Lib.cell_of_heap hbx]; rfl
      have e4 : wr.cell? ⟨w.heap.size, 4, none⟩ = some (.bool dead) := by rw [Lib.cell_of_heap hbx]; rfl
      have g0 : wr.cell? ⟨w.heap.size + 1, 0, none⟩ = some (.slice none 0 0) := by rw [Lib.cell_of_heap hrx]; rfl
      have g1 : wr.cell? ⟨w.heap.size + 1, 1, none⟩ = some (.int .i64 0) := by rw [Lib.cell_of_heap hrx]; rfl
      have g2 : wr.cell? ⟨w.heap.size + 1, 2, none⟩ = some (.bool false) := by rw [Lib.cell_of_heap hrx]; rfl
      have g3 : wr.cell? ⟨w.heap.size + 1, 3, none⟩ = some (.int .i64 0) := by rw [Lib.cell_of_heap hrx]; rfl
      have g4 : wr.cell? ⟨w.heap.size + 1, 4, none⟩ = some (.bool false) := by rw [Lib.cell_of_heap hrx]; rfl
      have f0 : wr.frozen? ⟨w.heap.size, 0, none⟩ = false := Lib.frozen_of_heap hbx 0
      have k0 : wr.frozen? ⟨w.heap.size + 1, 0, none⟩ = false := Lib.frozen_of_heap hrx 0
      have k1 : wr.frozen? ⟨w.heap.size + 1, 1, none⟩ = false := Lib.frozen_of_heap hrx 1
      have k2 : wr.frozen? ⟨w.heap.size + 1, 2, none⟩ = false := Lib.frozen_of_heap hrx 2
      have k3 : wr.frozen? ⟨w.heap.size + 1, 3, none⟩ = false := Lib.frozen_of_heap hrx 3
      have k4 : wr.frozen? ⟨w.heap.size + 1, 4, none⟩ = false := Lib.frozen_of_heap hrx 4
      clear hbx hrx HI
      go_wp2_with fail
      have hg := set5 (b := w.heap.size) (r := w.heap.size + 1) (by omega) HRX.out (.slice lo (delBy F.name s files).length lcap) (.slice lo (delBy F.name s files).length lcap) (.int .i64 room) (.bool fs) (.int .i64 left) (.bool dead)
      have KW : Kp [] w.heap.size w wr := HK2.out.trans (HI2.out.2.mono (by simp) (by omega))
      have K6 := (((((KW.setCell (.inl (Nat.le_refl _)) 0 none (.slice lo (delBy F.name s files).length lcap)).setCell (b := w.heap.size + 1) (.inl (by omega)) 0 none (.slice lo (delBy F.name s files).length lcap)).setCell (b := w.heap.size + 1) (.inl (by omega)) 1 none (.int .i64 room)).setCell (b := w.heap.size + 1) (.inl (by omega)) 2 none (.bool fs)).setCell (b := w.heap.size + 1) (.inl (by omega)) 3 none (.int .i64 left)).setCell (b := w.heap.size + 1) (.inl (by omega)) 4 none (.bool dead)
      (try simp only [Exit.inBlock, Exit.then])
      refine bodyPost_ret (YtdabflkejhoghaaGreat.HW.results_single rfl (.cell (w.heap.size + 1) 31 _ (0, 0) _ rfl hg Tryz.underlying31 rfl infoT .nil)) rfl ?_
      have KL := ((((((Kp.refl [w.heap.size, w.heap.size + 1] wr.heap.size wr).setCell (b := w.heap.size) (.inr (by simp)) 0 none (.slice lo (delBy F.name s files).length lcap)).setCell (b := w.heap.size + 1) (.inr (by simp)) 0 none (.slice lo (delBy F.name s files).length lcap)).setCell (b := w.heap.size + 1) (.inr (by simp)) 1 none (.int .i64 room)).setCell (b := w.heap.size + 1) (.inr (by simp)) 2 none (.bool fs)).setCell (b := w.heap.size + 1) (.inr (by simp)) 3 none (.int .i64 left)).setCell (b := w.heap.size + 1) (.inr (by simp)) 4 none (.bool dead)
      exact ⟨_, rfl, (HI2.out.1.kpL KL (by simp)).base (by omega), K6⟩
theorem rwithout (d : Dk) (v : Value) (s : List UInt8) (w : World) (h : IsT w v d) :
    Calls Tryz.prog 70 #[v, .string ⟨s.toArray⟩] w fun e w' => ∃ v', e = .returned v' ∧ IsT w' v' (d.dropped s) ∧ Kp [] w.heap.size w w' := by
  obtain ⟨fv, left, rfl, hf, hl1, hl2, hl3, hok⟩ := h
  refine (rwithoutO w w fv d.files _ _ _ _ s hf hok.few).mono ?_
  rintro e w' ⟨fv', rfl, h1, h2⟩
  exact ⟨_, rfl, ⟨fv', left, rfl, h1.ref h2, hl1, hl2, hl3, hok.dropped s⟩, h2⟩
end Go.Proofs.YtdabflkejhoghaaGreat.Hand
