/- The reference's disk: put. -/
import Derived.Below
import Derived.Deep.Draws
import Derived.Deep.AppendLies
import Derived.Maps.AppendAt
import Derived.OwnWalk
import Derived.Laws.BytesArg
import Derived.Laws.MakeOwn
import Derived.Laws.OwnMore
import Derived.Deep.OwnRows
import Derived.Tactics
import Derived.Lib.ConvBytes
import Derived.Laws.Slices
import Derived.WalkKit
import Derived.KernelRfl
import Derived.RowKit3
import Derived.Deep.LoopGhost
import Derived.Deep.QuietTactic
import Derived.BigQuiet
import Derived.WideLaws
import Derived.Deep.DeepCutAuto
import Derived.Deep.CutBlock
import Derived.Deep.RegionHeld3
import Derived.Laws.Rows
import Derived.Lib.AppendStr
import Derived.ArgAppend
import Derived.Laws.IdiomCopy
import Derived.OrdersHeld
import Derived.Laws.BitsLemmas
import Derived.RowKit
import Derived.Outline
import Derived.Maps.Own
import Derived.Maps.OwnOps
import Derived.Maps.OwnSet
import Derived.Maps.Views
import Derived.Maps.RangeWalk
import Derived.Maps.Ext
import Derived.RangeFuncOwn
import Derived.OneCell
import Derived.Deep.DeepMust
import Derived.Lib.Hide
import Derived.StillTailTactics
import Derived.Laws.AppendOwnNone
import Derived.WalkMore
import Derived.Lib.SlBytesConst
import Derived.WalkLawsBesides
import Derived.Laws.BitsAllLaws
import Derived.Test.YtdabflkejhoghaaGreatHRv
namespace Go.Proofs.YtdabflkejhoghaaGreat.Hand
open Go Go.RowKit Go.Maps Go.WideMaps
set_option linter.unusedVariables false
set_option linter.unusedSimpArgs false
theorem insBy_at {x : F} : ∀ (l : List F) (k : Nat) (hk : k ≤ l.length), (∀ i (hi : i < l.length), i < k → bytesBefore l[i].name x.name = true) → (∀ (hk' : k < l.length), bytesBefore x.name l[k].name = true) → insBy F.name x l = l.take k ++ x :: l.drop k
  | [], 0, _, _, _ => rfl
  | y :: r, 0, _, _, h2 => by
    have h2' : bytesBefore x.name y.name = true := h2 (by simp)
    simp only [insBy]
    rw [if_pos h2']; rfl
  | y :: r, k + 1, hk, h1, h2 => by
    have h0 : bytesBefore y.name x.name = true := h1 0 (by simp) (by omega)
    have ih := insBy_at (x := x) r k (by simpa using hk) (fun i hi hlt => h1 (i + 1) (by simpa using hi) (by omega)) (fun hk' => h2 (by simpa using hk'))
    simp only [insBy]
    rw [if_neg (by rw [bb_asymm h0]; simp), ih]; rfl
theorem set5b {w : World} {r : Nat} {x0 x1 x2 x3 x4 : Value} {T : TypeId} (h : w.heap[r]? = some (.cells #[x0, x1, x2, x3, x4] T)) (v0 v1 v2 v3 v4 : Value) :
    (((((w.setCell ⟨r, 0, none⟩ v0).setCell ⟨r, 1, none⟩ v1).setCell ⟨r, 2, none⟩ v2).setCell ⟨r, 3, none⟩ v3).setCell ⟨r, 4, none⟩ v4).heap[r]? = some (.cells #[v0, v1, v2, v3, v4] T) := by
  simp [World.setCell, Array.getElem?_modify, h]
theorem row_news {w : World} {base n cap g : Nat} {hs : List Hf} (h : w.ownsRow base 65 3 (.slice (some ⟨g, 0, none⟩) n cap) n (fcells hs)) (i k : Nat) : ∀ j u, (fcells ((hs.drop i).take k))[j]? = some u → w.cell? ((⟨g, i * 3, none⟩ : Addr).add j) = some u := by
  intro j u hu
  have e : (⟨g, i * 3, none⟩ : Addr).add j = ⟨g, i * 3 + j, none⟩ := by unfold Addr.add; split <;> simp_all
  have hj : j < (fcells ((hs.drop i).take k)).length := (List.getElem?_eq_some_iff.1 hu).1
  have h1 : (fcells (hs.drop i))[j]? = some u := by
    have : fcells (hs.drop i) = fcells ((hs.drop i).take k) ++ fcells ((hs.drop i).drop k) := by rw [← fcells_app, List.take_append_drop]
    rw [this, List.getElem?_append_left hj]; exact hu
  have hj1 : j < (fcells (hs.drop i)).length := (List.getElem?_eq_some_iff.1 h1).1
  have hil : i ≤ hs.length := by rw [fcells_len] at hj1; simp at hj1; omega
  have h2 : (fcells hs)[i * 3 + j]? = some u := by
    have : fcells hs = fcells (hs.take i) ++ fcells (hs.drop i) := by rw [← fcells_app, List.take_append_drop]
    rw [this, List.getElem?_append_right (by rw [fcells_len]; simp; omega), fcells_len, ← h1]
    congr 1; simp; omega
  obtain ⟨h3, h4⟩ := h
  rcases h4 with ⟨hv, _⟩ | ⟨g', cap', cur, hv, hg, hb, h5, h6, h7, h8⟩
  · cases hv
  · injection hv with hv _ _
    injection hv with hv
    injection hv with hv
    subst hv
    have hlt : i * 3 + j < n * 3 := by rw [← h3]; exact (List.getElem?_eq_some_iff.1 h2).1
    rw [e, Lib.cell_of_heap hb, ← Array.getElem?_toList, ← h2, ← h8, List.getElem?_take_of_lt hlt]
theorem wpList_appN {w0 w : World} {ops : Array Oper} {rest : List Oper} {o : Oper} {a : Act} {Q : Exit → Act → World → Prop} (hg : o.guard = none) (s x : Operand)
    (ho : o.op = .call { callee := .builtin .append, args := #[s, x], argTypes := #[29, 29] }) (base : Nat) (v : Value) (l : List F) (hs : a.eval s = v) (hown : FilesO w0 w base v l) (hx : a.eval x = .slice none 0 0)
    (hK : wpList Tryz.prog ops Q rest (a.put o.dst v) w) : wpList Tryz.prog ops Q (o :: rest) a w := by
  obtain ⟨i0, hi, hz0, hz1, hz2⟩ := info_parts8 infoF
  obtain ⟨hs', rfl, h2, h3⟩ := hown
  exact wpList_append_own_none hg s x 29 ho base 65 i0 3 Tryz.underlying29 hi v _ (fcells hs') hs h2 hx hK
theorem bytesLess_bb : ∀ a b : List UInt8, Op.bytesLess a b = bytesBefore a b
  | [], [] => rfl
  | [], _ :: _ => rfl
  | _ :: _, [] => rfl
  | a :: r, b :: s => by simp only [Op.bytesLess, bytesBefore, bytesLess_bb r s]
set_option maxHeartbeats 1600000 in
set_option maxRecDepth 100000 in
theorem rputO (w0 w : World) (fv : Value) (files : List F) (room left : Int) (fs dead : Bool) (f : F) (fb : Value) (hf : FilesO w0 w 0 fv files) (hm8 : files.length ≤ 8) (hb : BytesV w0 (fun _ => True) fb f.b) :
    Calls Tryz.prog 75 #[.agg #[fv, .int .i64 room, .bool fs, .int .i64 left, .bool dead], .agg #[.string ⟨f.name.toArray⟩, fb, .int .i64 (f.lasts : Int)]] w fun e w' => ∃ fv', e = .returned (.agg #[fv', .int .i64 room, .bool fs, .int .i64 left, .bool dead]) ∧ FilesO w0 w' w.heap.size fv' (putBy F.name f files) ∧ Kp [] w.heap.size w w' := by
  have HB := Lib.hid hb
  have HF := Lib.hid hf
  obtain ⟨ab, capb, rfl, -, -, -⟩ := hb
  obtain ⟨ao, cap, rfl, -, -⟩ := hf.shape
  obtain ⟨m, hm⟩ : ∃ m, m = files.length := ⟨_, rfl⟩
  rw [← hm] at HF ⊢
  have HM := Lib.hid hm
  rw [← hm] at hm8
  clear hf hm
  go_enter Tryz.func75, Tryz.ntmps75
  go_wp2_with fail
  obtain ⟨W3, hW3⟩ : ∃ W3, W3 = (((w.alloc (.cells #[.slice ao m cap, .int .i64 room, .bool fs, .int .i64 left, .bool dead] 31)).alloc (.cells #[.string ⟨f.name.toArray⟩, .slice ab f.b.length capb, .int .i64 (f.lasts : Int)] 65)).alloc (.cells #[.slice none 0 0, .int .i64 0, .bool false, .int .i64 0, .bool false] 31)) := ⟨_, rfl⟩
  rw [← hW3]
  have hz3 : W3.heap.size = w.heap.size + 3 := by rw [hW3]; simp
  have hb0 : W3.heap[w.heap.size]? = some (.cells #[.slice ao m cap, .int .i64 room, .bool fs, .int .i64 left, .bool dead] 31) := by
    rw [hW3]; exact ((Below.heap_alloc _ _ _ (by simp; omega)).trans (Below.heap_alloc _ _ _ (by simp))).trans (World.alloc_heap_new w _)
  have hb1 : W3.heap[w.heap.size + 1]? = some (.cells #[.string ⟨f.name.toArray⟩, .slice ab f.b.length capb, .int .i64 (f.lasts : Int)] 65) := by
    rw [hW3]; exact (Below.heap_alloc _ _ _ (by simp)).trans (new_at _ _ _ (by simp))
  have hb2 : W3.heap[w.heap.size + 2]? = some (.cells #[.slice none 0 0, .int .i64 0, .bool false, .int .i64 0, .bool false] 31) := by
    rw [hW3]; exact new_at _ _ _ (by simp)
  have HK3 : Hid (Kp [] w.heap.size w W3) := by rw [hW3]; exact (kp2 _ _ _).alloc (by simp; omega) _
  have HF3 : Hid (FilesO w0 W3 0 (.slice ao m cap) files) := by
    rw [hW3]; exact HF.out.kp ((kp2 _ _ _).alloc (by simp; omega) _)
  clear hW3
  refine (rwithoutO w0 W3 _ files room left fs dead f.name HF3.out (by rw [← HM.out]; omega)).mono ?_
  rintro e w4 ⟨fv', rfl, hf', k4⟩
  obtain ⟨lo, lcap, rfl, -, -⟩ := hf'.shape
  obtain ⟨l, hl⟩ : ∃ l, l = delBy F.name f.name files := ⟨_, rfl⟩
  rw [← hl] at hf' ⊢
  have hz4 := k4.size
  have hc0 := (k4.block w.heap.size (by omega) (by simp)).trans hb0
  have hc1 := (k4.block (w.heap.size + 1) (by omega) (by simp)).trans hb1
  have hc2 := (k4.block (w.heap.size + 2) (by omega) (by simp)).trans hb2
  have HC1 := Lib.hid hc1
  have HC2 := Lib.hid hc2
  have HC0 := Lib.hid hc0
  have HF4 := Lib.hid hf'
  have HK4 : Hid (Kp [] w.heap.size w w4) := HK3.out.trans (k4.mono (by simp) (by omega))
  have HL := Lib.hid hl
  have e0 : w4.cell? ⟨w.heap.size, 0, none⟩ = some (.slice ao m cap) := by rw [Lib.cell_of_heap hc0]; rfl
  have e1 : w4.cell? ⟨w.heap.size, 1, none⟩ = some (.int .i64 room) := by rw [Lib.cell_of_heap hc0]; rfl
  have e2 : w4.cell? ⟨w.heap.size, 2, none⟩ = some (.bool fs) := by rw [Lib.cell_of_heap hc0]; rfl
  have e3 : w4.cell? ⟨w.heap.size, 3, none⟩ = some (.int .i64 left) := by rw [Lib.cell_of_heap hc0]; rfl
  have e4 : w4.cell? ⟨w.heap.size, 4, none⟩ = some (.bool dead) := by rw [Lib.cell_of_heap hc0]; rfl
  have f0 : w4.frozen? ⟨w.heap.size, 0, none⟩ = false := Lib.frozen_of_heap hc0 0
  have f1 : w4.frozen? ⟨w.heap.size, 1, none⟩ = false := Lib.frozen_of_heap hc0 1
  have f2 : w4.frozen? ⟨w.heap.size, 2, none⟩ = false := Lib.frozen_of_heap hc0 2
  have f3 : w4.frozen? ⟨w.heap.size, 3, none⟩ = false := Lib.frozen_of_heap hc0 3
  have f4 : w4.frozen? ⟨w.heap.size, 4, none⟩ = false := Lib.frozen_of_heap hc0 4
  have hsz5 : w.heap.size + 3 ≤ w4.heap.size := by omega
  clear hf' hc0 hc1 hc2 hb0 hb1 hb2 k4 hl
  go_upto_region 2 with fail
  go_cut [5] (fun q wx => q = .int .i64 0 ∧ Hid (wx.heap[w.heap.size]? = some (.cells #[.slice lo l.length lcap, .int .i64 room, .bool fs, .int .i64 left, .bool dead] 31) ∧ Kp [w.heap.size] w4.heap.size w4 wx))
  case first =>
    have hx := set5b HC0.out (.slice lo l.length lcap) (.int .i64 room) (.bool fs) (.int .i64 left) (.bool dead)
    have KL := (((((Kp.refl [w.heap.size] w4.heap.size w4).setCell (b := w.heap.size) (.inr (by simp)) 0 none (.slice lo l.length lcap)).setCell (b := w.heap.size) (.inr (by simp)) 1 none (.int .i64 room)).setCell (b := w.heap.size) (.inr (by simp)) 2 none (.bool fs)).setCell (b := w.heap.size) (.inr (by simp)) 3 none (.int .i64 left)).setCell (b := w.heap.size) (.inr (by simp)) 4 none (.bool dead)
    have HX := Lib.hid (And.intro hx KL)
    clear hx KL
    go_wp2
    go_meet
    exact ⟨rfl, HX⟩
  case rest =>
    obtain ⟨rfl, HX⟩ := hcut
    clear e0 e1 e2 e3 e4 f0 f1 f2 f3 f4
    have HD1 := Lib.hid ((HX.out.2.block (w.heap.size + 1) (by omega) (by simp)).trans HC1.out)
    have HD2 := Lib.hid ((HX.out.2.block (w.heap.size + 2) (by omega) (by simp)).trans HC2.out)
    have HFc : Hid (FilesO w0 wc (w.heap.size + 3) (.slice lo l.length lcap) l) := (HF4.out.kpL HX.out.2 (by simp; omega)).base (by omega)
    have HKc : Hid (Kp [] w.heap.size w wc) := HK4.out.trans ((HX.out.2.shed (by simp) (by omega)).mono (by simp) (Nat.le_refl _))
    have hzc : w.heap.size + 3 ≤ wc.heap.size := by have := HX.out.2.size; omega
    obtain ⟨n, hn⟩ : ∃ n, n = l.length := ⟨_, rfl⟩
    have hn8 : n ≤ 8 := by rw [hn, HL.out]; exact Nat.le_trans (List.length_filter_le _ _) (by have := HM.out; omega)
    rw [← hn] at HX HFc
    have HN := Lib.hid hn
    clear hn
    rename World => W5
    have HI0 : Hid ((∀ i (hi : i < l.length), i < 0 → bytesBefore l[i].name f.name = true) ∧ Kp [] W5.heap.size W5 W5) := ⟨fun i hi h => absurd h (by omega), Kp.refl _ _ _⟩
    go_upto_block 0 with fail
    go_cut [5] (fun q wx => ∃ k : Nat, k ≤ n ∧ q = .int .i64 (k : Int) ∧ Hid (insBy F.name f l = l.take k ++ f :: l.drop k ∧ Kp [] W5.heap.size W5 wx))
    case first =>
     go_wp2_with fail
     go_loopw [5] (fun i wr => ∃ k : Nat, k ≤ n ∧ i = .int .i64 (k : Int) ∧ Hid ((∀ i (hi : i < l.length), i < k → bytesBefore l[i].name f.name = true) ∧ Kp [] W5.heap.size W5 wr)) (fun i _ => n - (intOf i).toNat)
     case atStart => exact ⟨0, by omega, rfl, HI0⟩
     case round =>
       obtain ⟨k, hk, rfl, HI⟩ := hrel
       have hbx := (HI.out.2.block w.heap.size (by omega) (by simp)).trans HX.out.1
       have hb1 := (HI.out.2.block (w.heap.size + 1) (by omega) (by simp)).trans HD1.out
       have hb2 := (HI.out.2.block (w.heap.size + 2) (by omega) (by simp)).trans HD2.out
       have HBX := Lib.hid hbx
       have HB1 := Lib.hid hb1
       have HB2 := Lib.hid hb2
       have e0 : wr.cell? ⟨w.heap.size, 0, none⟩ = some (.slice lo n lcap) := by rw [Lib.cell_of_heap hbx]; rfl
       have hzr := HI.out.2.size
       have HFr : Hid (FilesO w0 wr (w.heap.size + 3) (.slice lo n lcap) l) := HFc.out.kp HI.out.2
       obtain ⟨Y, hY⟩ : ∃ Y : ByteArray, Y = ⟨f.name.toArray⟩ := ⟨_, rfl⟩
       have g0 : wr.cell? ⟨w.heap.size + 1, 0, none⟩ = some (.string Y) := by rw [Lib.cell_of_heap hb1, hY]; rfl
       have HY := Lib.hid hY
       clear hbx hb1 hb2 hY
       by_cases hlt : k < n
       · have hkl : k < l.length := by rw [← HN.out]; exact hlt
         obtain ⟨g, vb, rfl, hg1, hg, c0, -, -, -⟩ := HFr.out.at k hkl
         have hd : decide ((k : Int) < (n : Int)) = true := decide_eq_true (by omega)
         have hi1 : (k : Int) < (n : Int) := by omega
         have hi2 : 0 ≤ (k : Int) := by omega
         obtain ⟨X, hX⟩ : ∃ X : ByteArray, X = ⟨l[k].name.toArray⟩ := ⟨_, rfl⟩
         rw [← hX] at c0
         by_cases hbb : bytesBefore l[k].name f.name = true
         · have hL : Op.bytesLess X.toList Y.toList = true := by rw [hX, HY.out, mk_toList, mk_toList, bytesLess_bb]; exact hbb
           have HI2 : Hid (∀ i (hi : i < l.length), i < k + 1 → bytesBefore l[i].name f.name = true) := fun i hi h => by
             by_cases hik : i = k
             · subst hik; exact hbb
             · exact HI.out.1 i hi (by omega)
           clear hX hbb
           go_wp2_with fail
           go_quiet (fail)
           have HK5 : Hid (Kp [] W5.heap.size W5 (wr.drewN nq)) := HI.out.2.drew nq
           go_wp2_with fail
           go_roundw
           case rel => exact ⟨k + 1, by omega, by go_num, ⟨HI2.out, HK5.out⟩⟩
           case measure => simp [intOf]; omega
         · have hL : Op.bytesLess X.toList Y.toList = false := by rw [hX, HY.out, mk_toList, mk_toList, bytesLess_bb]; simpa using hbb
           have hne : l[k].name ≠ f.name := by
             have hm : l[k] ∈ delBy F.name f.name files := by rw [← HL.out]; exact List.getElem_mem _
             exact (mem_delBy.1 hm).2
           have HS : Hid (insBy F.name f l = l.take k ++ f :: l.drop k) := insBy_at l k (by omega) HI.out.1 (fun _ => bb_of_not hbb hne)
           clear hX hbb hne
           go_wp2_with fail
           go_quiet (fail)
           have HK5 : Hid (Kp [] W5.heap.size W5 (wr.drewN nq)) := HI.out.2.drew nq
           go_wp2_with fail
           go_meet
           exact ⟨k, by omega, rfl, ⟨HS.out, HK5.out⟩⟩
       · have hkn : k = n := by omega
         have hd : decide ((k : Int) < (n : Int)) = false := decide_eq_false (by omega)
         have HS : Hid (insBy F.name f l = l.take k ++ f :: l.drop k) := insBy_at l k (by have := HN.out; omega) HI.out.1 (fun h => by have := HN.out; omega)
         clear hkn
         go_wp2_with fail
         go_quiet (fail)
         have HK5 : Hid (Kp [] W5.heap.size W5 (wr.drewN nq)) := HI.out.2.drew nq
         go_wp2_with fail
         go_meet
         exact ⟨k, by omega, rfl, ⟨HS.out, HK5.out⟩⟩
    case rest =>
      obtain ⟨k, hk, rfl, HI⟩ := hcut
      have hbx := (HI.out.2.block w.heap.size (by omega) (by simp)).trans HX.out.1
      have hb1 := (HI.out.2.block (w.heap.size + 1) (by omega) (by simp)).trans HD1.out
      have hb2 := (HI.out.2.block (w.heap.size + 2) (by omega) (by simp)).trans HD2.out
      have HBX := Lib.hid hbx
      have HB1 := Lib.hid hb1
      have HB2 := Lib.hid hb2
      have e0 : wc.cell? ⟨w.heap.size, 0, none⟩ = some (.slice lo n lcap) := by rw [Lib.cell_of_heap hbx]; rfl
      have hzr := HI.out.2.size
      have hzr' : w.heap.size ≤ W5.heap.size := by omega
      obtain ⟨hs, hl, hrow, hbs⟩ : FilesO w0 wc (w.heap.size + 3) (.slice lo n lcap) l := HFc.out.kp HI.out.2
      have hhl : hs.length = n := by rw [HN.out, hl]; simp
      have HBS := Lib.hid hbs
      rw [show l.length = n from HN.out.symm] at hrow
      have HROW := Lib.hid hrow
      have HHL := Lib.hid hl
      clear hbx hb1 hb2 hbs hl
      rcases hrow.2 with ⟨hv, hn0⟩ | ⟨g, cap', cur, hv, hg, hbk, hc1, hc2, hcur, htk⟩
      · injection hv with hv1 hv2 hv3
        subst hv1; subst hv3
        have hk0 : k = 0 := by omega
        subst hk0
        have hl0 : l = [] := List.length_eq_zero_iff.1 (by rw [← HN.out]; exact hn0)
        clear hv2
        have HL0 := Lib.hid hl0
        subst hn0
        go_upto_region 7 with (at_builtin; go_must (refine wpList_appN (w0 := w0) rfl _ _ rfl wc.heap.size _ [] rfl (FilesO.nil _ _ _) rfl ?_))
        have hb1 := HB1.out
        have p0 : wc.cell? ⟨w.heap.size + 1, 0, none⟩ = some (.string ⟨f.name.toArray⟩) := by rw [Lib.cell_of_heap hb1]; rfl
        have p1 : wc.cell? ⟨w.heap.size + 1, 1, none⟩ = some (.slice ab f.b.length capb) := by rw [Lib.cell_of_heap hb1]; rfl
        have p2 : wc.cell? ⟨w.heap.size + 1, 2, none⟩ = some (.int .i64 (f.lasts : Int)) := by rw [Lib.cell_of_heap hb1]; rfl
        have HL6 : Hid (FilesO w0 (wc.alloc (.cells #[.string ⟨f.name.toArray⟩, .slice ab f.b.length capb, .int .i64 (f.lasts : Int)] 65)) wc.heap.size (.slice none 0 0) []) := FilesO.nil _ _ _
        have HK6 : Hid (Kp [] wc.heap.size wc (wc.alloc (.cells #[.string ⟨f.name.toArray⟩, .slice ab f.b.length capb, .int .i64 (f.lasts : Int)] 65))) := (Kp.refl _ _ _).alloc (Nat.le_refl _) _
        clear hb1
        go_upto_region 8 with (at_builtin; go_must (refine wpList_appF (w0 := w0) rfl _ _ rfl wc.heap.size _ _ rfl HL6.out ⟨wc.heap.size, 0, none⟩ 1 [(f, .slice ab f.b.length capb)] rfl (one_news _ _) (by simpa using HB.out) (by simp) (by simp) ?_; intro v8 w8 hl8 k8))
        have K8 := HK6.out.trans k8
        have hz8 := K8.size
        have q0 : w8.cell? ⟨w.heap.size, 0, none⟩ = some (.slice none 0 0) := by rw [Lib.cell_of_heap ((K8.block w.heap.size (by omega) (by simp)).trans HBX.out)]; rfl
        clear p0 p1 p2 e0
        go_upto_region 9 with (at_builtin; go_must (refine wpList_appN (w0 := w0) rfl _ _ rfl wc.heap.size _ _ rfl hl8 rfl ?_))
        have hlist : [] ++ [(f, Value.slice ab f.b.length capb)].map (·.1) = putBy F.name f files := by
          show _ = insBy F.name f (delBy F.name f.name files)
          rw [← HL.out, HL0.out]; rfl
        rw [hlist] at hl8
        clear q0 k8
        obtain ⟨lo8, lcap8, rfl, -, -⟩ := hl8.shape
        obtain ⟨n8, hn8⟩ : ∃ n8, n8 = (putBy F.name f files).length := ⟨_, rfl⟩
        rw [← hn8] at hl8 ⊢
        have hbx := (K8.block w.heap.size (by omega) (by simp)).trans HBX.out
        have hrx := (K8.block (w.heap.size + 2) (by omega) (by simp)).trans HB2.out
        have hrx' : w8.heap[w.heap.size + 1 + 1]? = some (.cells #[.slice none 0 0, .int .i64 0, .bool false, .int .i64 0, .bool false] 31) := hrx
        have HRX := Lib.hid hrx'
        have HL8 := Lib.hid hl8
        have HK8 : Hid (Kp [] w.heap.size w w8) := HKc.out.trans ((HI.out.2.mono (by simp) hzr').trans (K8.mono (by simp) (by omega)))
        have e0 : w8.cell? ⟨w.heap.size, 0, none⟩ = some (.slice none 0 0) := by rw [Lib.cell_of_heap hbx]; rfl
        have e1 : w8.cell? ⟨w.heap.size, 1, none⟩ = some (.int .i64 room) := by rw [Lib.cell_of_heap hbx]; rfl
        have e2 : w8.cell? ⟨w.heap.size, 2, none⟩ = some (.bool fs) := by rw [Lib.cell_of_heap hbx]; rfl
        have e3 : w8.cell? ⟨w.heap.size, 3, none⟩ = some (.int .i64 left) := by rw [Lib.cell_of_heap hbx]; rfl
        have e4 : w8.cell? ⟨w.heap.size, 4, none⟩ = some (.bool dead) := by rw [Lib.cell_of_heap hbx]; rfl
        have g0 : w8.cell? ⟨w.heap.size + 1 + 1, 0, none⟩ = some (.slice none 0 0) := by rw [Lib.cell_of_heap hrx']; rfl
        have g1 : w8.cell? ⟨w.heap.size + 1 + 1, 1, none⟩ = some (.int .i64 0) := by rw [Lib.cell_of_heap hrx']; rfl
        have g2 : w8.cell? ⟨w.heap.size + 1 + 1, 2, none⟩ = some (.bool false) := by rw [Lib.cell_of_heap hrx']; rfl
        have g3 : w8.cell? ⟨w.heap.size + 1 + 1, 3, none⟩ = some (.int .i64 0) := by rw [Lib.cell_of_heap hrx']; rfl
        have g4 : w8.cell? ⟨w.heap.size + 1 + 1, 4, none⟩ = some (.bool false) := by rw [Lib.cell_of_heap hrx']; rfl
        have f0 : w8.frozen? ⟨w.heap.size, 0, none⟩ = false := Lib.frozen_of_heap hbx 0
        have k0 : w8.frozen? ⟨w.heap.size + 1 + 1, 0, none⟩ = false := Lib.frozen_of_heap hrx' 0
        have k1 : w8.frozen? ⟨w.heap.size + 1 + 1, 1, none⟩ = false := Lib.frozen_of_heap hrx' 1
        have k2 : w8.frozen? ⟨w.heap.size + 1 + 1, 2, none⟩ = false := Lib.frozen_of_heap hrx' 2
        have k3 : w8.frozen? ⟨w.heap.size + 1 + 1, 3, none⟩ = false := Lib.frozen_of_heap hrx' 3
        have k4 : w8.frozen? ⟨w.heap.size + 1 + 1, 4, none⟩ = false := Lib.frozen_of_heap hrx' 4
        clear hbx hrx hrx' hl8 K8 hn8
        go_wp2_with fail
        have hg := set5 (b := w.heap.size) (r := w.heap.size + 1 + 1) (by omega) HRX.out (.slice lo8 n8 lcap8) (.slice lo8 n8 lcap8) (.int .i64 room) (.bool fs) (.int .i64 left) (.bool dead)
        have K6 := (((((HK8.out.setCell (b := w.heap.size) (.inl (Nat.le_refl _)) 0 none (.slice lo8 n8 lcap8)).setCell (b := w.heap.size + 1 + 1) (.inl (by omega)) 0 none (.slice lo8 n8 lcap8)).setCell (b := w.heap.size + 1 + 1) (.inl (by omega)) 1 none (.int .i64 room)).setCell (b := w.heap.size + 1 + 1) (.inl (by omega)) 2 none (.bool fs)).setCell (b := w.heap.size + 1 + 1) (.inl (by omega)) 3 none (.int .i64 left)).setCell (b := w.heap.size + 1 + 1) (.inl (by omega)) 4 none (.bool dead)
        have KL := ((((((Kp.refl [w.heap.size, w.heap.size + 1 + 1] w8.heap.size w8).setCell (b := w.heap.size) (.inr (by simp)) 0 none (.slice lo8 n8 lcap8)).setCell (b := w.heap.size + 1 + 1) (.inr (by simp)) 0 none (.slice lo8 n8 lcap8)).setCell (b := w.heap.size + 1 + 1) (.inr (by simp)) 1 none (.int .i64 room)).setCell (b := w.heap.size + 1 + 1) (.inr (by simp)) 2 none (.bool fs)).setCell (b := w.heap.size + 1 + 1) (.inr (by simp)) 3 none (.int .i64 left)).setCell (b := w.heap.size + 1 + 1) (.inr (by simp)) 4 none (.bool dead)
        (try simp only [Exit.inBlock, Exit.then])
        refine bodyPost_ret (YtdabflkejhoghaaGreat.HW.results_single rfl (.cell (w.heap.size + 1 + 1) 31 _ (0, 0) _ rfl hg Tryz.underlying31 rfl infoT .nil)) rfl ?_
        exact ⟨_, rfl, (HL8.out.kpL KL (by simp; omega)).base (by omega), K6⟩
      · injection hv with hv1 hv2 hv3
        subst hv1; subst hv3
        clear htk hcur hbk hrow hv2
        have hi1 : (k : Int) ≤ (lcap : Int) := by omega
        have hi2 : 0 ≤ (k : Int) := by omega
        have hi3 : (k : Int) ≤ (n : Int) := by omega
        have HA1 := Lib.hid (row_news HROW.out 0 k)
        have hkl : ((hs.drop 0).take k).length = k := by simp; omega
        go_upto_region 7 with (at_builtin; go_must (refine wpList_appF (w0 := w0) rfl _ _ rfl wc.heap.size _ [] rfl (FilesO.nil _ _ _) ⟨g, 0, none⟩ lcap ((hs.drop 0).take k) (by rw [hkl]; rfl) HA1.out (fun h hh => HBS.out h (List.mem_of_mem_drop (List.mem_of_mem_take hh))) (by simp; omega) (Nat.le_refl _) ?_; intro v6 w6 hl6 k6))
        have hz6 := k6.size
        have hb1 := (k6.block (w.heap.size + 1) (by omega) (by simp)).trans HB1.out
        have p0 : w6.cell? ⟨w.heap.size + 1, 0, none⟩ = some (.string ⟨f.name.toArray⟩) := by rw [Lib.cell_of_heap hb1]; rfl
        have p1 : w6.cell? ⟨w.heap.size + 1, 1, none⟩ = some (.slice ab f.b.length capb) := by rw [Lib.cell_of_heap hb1]; rfl
        have p2 : w6.cell? ⟨w.heap.size + 1, 2, none⟩ = some (.int .i64 (f.lasts : Int)) := by rw [Lib.cell_of_heap hb1]; rfl
        have HL6 : Hid (FilesO w0 (w6.alloc (.cells #[.string ⟨f.name.toArray⟩, .slice ab f.b.length capb, .int .i64 (f.lasts : Int)] 65)) wc.heap.size v6 ([] ++ ((hs.drop 0).take k).map (·.1))) := hl6.kp ((Kp.refl _ _ _).alloc (Nat.le_refl _) _)
        have HK6 : Hid (Kp [] wc.heap.size wc (w6.alloc (.cells #[.string ⟨f.name.toArray⟩, .slice ab f.b.length capb, .int .i64 (f.lasts : Int)] 65))) := k6.alloc hz6 _
        clear hb1 hl6 k6
        go_upto_region 8 with (at_builtin; go_must (refine wpList_appF (w0 := w0) rfl _ _ rfl wc.heap.size _ _ rfl HL6.out ⟨w6.heap.size, 0, none⟩ 1 [(f, .slice ab f.b.length capb)] rfl (one_news _ _) (by simpa using HB.out) (by simp; omega) (by simp; omega) ?_; intro v7 w7 hl7 k7))
        have K7 := HK6.out.trans k7
        have hz7 := K7.size
        have q0 : w7.cell? ⟨w.heap.size, 0, none⟩ = some (.slice (some ⟨g, 0, none⟩) n lcap) := by rw [Lib.cell_of_heap ((K7.block w.heap.size (by omega) (by simp)).trans HBX.out)]; rfl
        have HL7 := Lib.hid hl7
        have HK7 := Lib.hid K7
        clear hl7 k7 K7 p0 p1 p2 e0
        have hkl2 : ((hs.drop k).take (n - k)).length = n - k := by simp; omega
        obtain ⟨ad, had, hnew⟩ : ∃ ad : Addr, (if lcap = k then some (⟨g, 0, none⟩ : Addr) else some ⟨g, k * 3, none⟩) = some ad ∧ ∀ j u, (fcells ((hs.drop k).take (n - k)))[j]? = some u → wc.cell? (ad.add j) = some u ∧ ad.block = g := by
          by_cases hck : lcap = k
          · refine ⟨_, if_pos hck, fun j u hu => ?_⟩
            have : (hs.drop k).take (n - k) = [] := by rw [show n - k = 0 by omega]; simp
            rw [this] at hu; simp [fcells] at hu
          · exact ⟨_, if_neg hck, fun j u hu => ⟨row_news HROW.out k (n - k) j u hu, rfl⟩⟩
        have hgw : g < wc.heap.size := by
          rcases HROW.out.2 with ⟨hv, _⟩ | ⟨g', cap', cur, hv, _, hbk, _⟩
          · cases hv
          · injection hv with hv _ _
            injection hv with hv
            injection hv with hv
            subst hv
            exact (Array.getElem?_eq_some_iff.1 hbk).1
        have HNEW : Hid (∀ j u, (fcells ((hs.drop k).take (n - k)))[j]? = some u → w7.cell? (ad.add j) = some u) := fun j u hu => by
          obtain ⟨h1, h2⟩ := hnew j u hu
          rw [HK7.out.cell (p := ad.add j) (by rw [add_block, h2]; exact hgw) (by simp)]; exact h1
        clear hnew
        go_upto_region 9 with (at_builtin; go_must (refine wpList_appF (w0 := w0) rfl _ _ rfl wc.heap.size _ _ rfl HL7.out ad (lcap - k) ((hs.drop k).take (n - k)) (by rw [hkl2, ← had]; rfl) HNEW.out (fun h hh => HBS.out h (List.mem_of_mem_drop (List.mem_of_mem_take hh))) (by simp; omega) (by omega) ?_; intro v8 w8 hl8 k8))
        have K8 := HK7.out.trans k8
        have hlist : [] ++ ((hs.drop 0).take k).map (·.1) ++ [(f, Value.slice ab f.b.length capb)].map (·.1) ++ ((hs.drop k).take (n - k)).map (·.1) = putBy F.name f files := by
          show _ = insBy F.name f (delBy F.name f.name files)
          rw [← HL.out, HI.out.1, HHL.out]
          have : (hs.drop k).take (n - k) = hs.drop k := List.take_of_length_le (by simp; omega)
          rw [this]
          simp [List.map_take, List.map_drop]
        rw [hlist] at hl8
        have hz8 := K8.size
        obtain ⟨lo8, lcap8, rfl, -, -⟩ := hl8.shape
        obtain ⟨n8, hn8⟩ : ∃ n8, n8 = (putBy F.name f files).length := ⟨_, rfl⟩
        rw [← hn8] at hl8 ⊢
        have hbx := (K8.block w.heap.size (by omega) (by simp)).trans HBX.out
        have hrx := (K8.block (w.heap.size + 2) (by omega) (by simp)).trans HB2.out
        have hrx' : w8.heap[w.heap.size + 1 + 1]? = some (.cells #[.slice none 0 0, .int .i64 0, .bool false, .int .i64 0, .bool false] 31) := hrx
        have HRX := Lib.hid hrx'
        have HL8 := Lib.hid hl8
        have HK8 : Hid (Kp [] w.heap.size w w8) := HKc.out.trans ((HI.out.2.mono (by simp) hzr').trans (K8.mono (by simp) (by omega)))
        have e0 : w8.cell? ⟨w.heap.size, 0, none⟩ = some (.slice (some ⟨g, 0, none⟩) n lcap) := by rw [Lib.cell_of_heap hbx]; rfl
        have e1 : w8.cell? ⟨w.heap.size, 1, none⟩ = some (.int .i64 room) := by rw [Lib.cell_of_heap hbx]; rfl
        have e2 : w8.cell? ⟨w.heap.size, 2, none⟩ = some (.bool fs) := by rw [Lib.cell_of_heap hbx]; rfl
        have e3 : w8.cell? ⟨w.heap.size, 3, none⟩ = some (.int .i64 left) := by rw [Lib.cell_of_heap hbx]; rfl
        have e4 : w8.cell? ⟨w.heap.size, 4, none⟩ = some (.bool dead) := by rw [Lib.cell_of_heap hbx]; rfl
        have g0 : w8.cell? ⟨w.heap.size + 1 + 1, 0, none⟩ = some (.slice none 0 0) := by rw [Lib.cell_of_heap hrx']; rfl
        have g1 : w8.cell? ⟨w.heap.size + 1 + 1, 1, none⟩ = some (.int .i64 0) := by rw [Lib.cell_of_heap hrx']; rfl
        have g2 : w8.cell? ⟨w.heap.size + 1 + 1, 2, none⟩ = some (.bool false) := by rw [Lib.cell_of_heap hrx']; rfl
        have g3 : w8.cell? ⟨w.heap.size + 1 + 1, 3, none⟩ = some (.int .i64 0) := by rw [Lib.cell_of_heap hrx']; rfl
        have g4 : w8.cell? ⟨w.heap.size + 1 + 1, 4, none⟩ = some (.bool false) := by rw [Lib.cell_of_heap hrx']; rfl
        have f0 : w8.frozen? ⟨w.heap.size, 0, none⟩ = false := Lib.frozen_of_heap hbx 0
        have k0 : w8.frozen? ⟨w.heap.size + 1 + 1, 0, none⟩ = false := Lib.frozen_of_heap hrx' 0
        have k1 : w8.frozen? ⟨w.heap.size + 1 + 1, 1, none⟩ = false := Lib.frozen_of_heap hrx' 1
        have k2 : w8.frozen? ⟨w.heap.size + 1 + 1, 2, none⟩ = false := Lib.frozen_of_heap hrx' 2
        have k3 : w8.frozen? ⟨w.heap.size + 1 + 1, 3, none⟩ = false := Lib.frozen_of_heap hrx' 3
        have k4 : w8.frozen? ⟨w.heap.size + 1 + 1, 4, none⟩ = false := Lib.frozen_of_heap hrx' 4
        clear hbx hrx hrx' hl8 K8 hn8
        go_wp2_with fail
        have hg := set5 (b := w.heap.size) (r := w.heap.size + 1 + 1) (by omega) HRX.out (.slice lo8 n8 lcap8) (.slice lo8 n8 lcap8) (.int .i64 room) (.bool fs) (.int .i64 left) (.bool dead)
        have K6 := (((((HK8.out.setCell (b := w.heap.size) (.inl (Nat.le_refl _)) 0 none (.slice lo8 n8 lcap8)).setCell (b := w.heap.size + 1 + 1) (.inl (by omega)) 0 none (.slice lo8 n8 lcap8)).setCell (b := w.heap.size + 1 + 1) (.inl (by omega)) 1 none (.int .i64 room)).setCell (b := w.heap.size + 1 + 1) (.inl (by omega)) 2 none (.bool fs)).setCell (b := w.heap.size + 1 + 1) (.inl (by omega)) 3 none (.int .i64 left)).setCell (b := w.heap.size + 1 + 1) (.inl (by omega)) 4 none (.bool dead)
        have KL := ((((((Kp.refl [w.heap.size, w.heap.size + 1 + 1] w8.heap.size w8).setCell (b := w.heap.size) (.inr (by simp)) 0 none (.slice lo8 n8 lcap8)).setCell (b := w.heap.size + 1 + 1) (.inr (by simp)) 0 none (.slice lo8 n8 lcap8)).setCell (b := w.heap.size + 1 + 1) (.inr (by simp)) 1 none (.int .i64 room)).setCell (b := w.heap.size + 1 + 1) (.inr (by simp)) 2 none (.bool fs)).setCell (b := w.heap.size + 1 + 1) (.inr (by simp)) 3 none (.int .i64 left)).setCell (b := w.heap.size + 1 + 1) (.inr (by simp)) 4 none (.bool dead)
        (try simp only [Exit.inBlock, Exit.then])
        refine bodyPost_ret (YtdabflkejhoghaaGreat.HW.results_single rfl (.cell (w.heap.size + 1 + 1) 31 _ (0, 0) _ rfl hg Tryz.underlying31 rfl infoT .nil)) rfl ?_
        exact ⟨_, rfl, (HL8.out.kpL KL (by simp; omega)).base (by omega), K6⟩
end Go.Proofs.YtdabflkejhoghaaGreat.Hand
