/- The reference's disk: Crash. -/
import Derived.Below
import Derived.Deep.Draws
import Derived.Deep.AppendLies
import Derived.Maps.AppendAt
import Derived.OwnWalk
import Derived.Laws.BytesArg
import Derived.Laws.MakeOwn
import Derived.Laws.OwnMore
import Derived.Deep.OwnRows
import Derived.Tactics
import Derived.Lib.ConvBytes
import Derived.Laws.Slices
import Derived.WalkKit
import Derived.KernelRfl
import Derived.RowKit3
import Derived.Deep.LoopGhost
import Derived.Deep.QuietTactic
import Derived.BigQuiet
import Derived.WideLaws
import Derived.Deep.DeepCutAuto
import Derived.Deep.CutBlock
import Derived.Deep.RegionHeld3
import Derived.Laws.Rows
import Derived.Lib.AppendStr
import Derived.ArgAppend
import Derived.Laws.IdiomCopy
import Derived.OrdersHeld
import Derived.Laws.BitsLemmas
import Derived.RowKit
import Derived.Outline
import Derived.Maps.Own
import Derived.Maps.OwnOps
import Derived.Maps.OwnSet
import Derived.Maps.Views
import Derived.Maps.RangeWalk
import Derived.Maps.Ext
import Derived.RangeFuncOwn
import Derived.OneCell
import Derived.Deep.DeepMust
import Derived.Lib.Hide
import Derived.StillTailTactics
import Derived.Laws.AppendOwnNone
import Derived.WalkMore
import Derived.Lib.SlBytesConst
import Derived.WalkLawsBesides
import Derived.Laws.BitsAllLaws
import Derived.Deep.RegionLaw
import Derived.Test.YtdabflkejhoghaaGreatWLast
import Derived.Test.YtdabflkejhoghaaGreatHWa
import Derived.Test.YtdabflkejhoghaaGreatHSa
namespace Go.Proofs.YtdabflkejhoghaaGreat.Hand
open Go Go.RowKit Go.Maps Go.WideMaps Go.Proofs.YtdabflkejhoghaaGreat.HW Go.Proofs.YtdabflkejhoghaaGreatW.PrintLast
set_option linter.unusedVariables false
set_option linter.unusedSimpArgs false
/-- append(files, x..) as one step of a region that draws -/
theorem step_appF {w0 w : World} {ops : Array Oper} {o : Oper} {a : Act} {K : Act → World → Prop} {Q : Exit → Act → World → Prop} {E : Prop} (hg : o.guard = none) (s x : Operand)
    (ho : o.op = .call { callee := .builtin .append, args := #[s, x], argTypes := #[29, 29] }) (base : Nat) (v : Value) (l : List F) (hs : a.eval s = v) (hown : FilesO w0 w base v l)
    (ad : Addr) (c : Nat) (ks : List Hf) (hx : a.eval x = .slice (some ad) ks.length c) (hks : ∀ j u, (fcells ks)[j]? = some u → w.cell? (ad.add j) = some u) (hkb : ∀ h ∈ ks, BytesV w0 (fun _ => True) h.2 h.1.b) (hlen : l.length + ks.length ≤ 1000) (hk0 : 0 < ks.length) (hbase : base ≤ w.heap.size)
    (hK : ∀ lo n cap w', FilesO w0 w' base (.slice lo n cap) (l ++ ks.map (·.1)) → Kp [] base w w' → K (a.put o.dst (.slice lo n cap)) w') : if Region.wanted o (yielded ops a.tmps) = true then Oper.wp Tryz.prog o a w K Q else E := by
  obtain ⟨i0, hi, hz0, hz1, hz2⟩ := info_parts8 infoF
  obtain ⟨hs', rfl, h2, h3⟩ := hown
  refine step_append_lies w hg s x 29 ho base 65 i0 (.agg #[.string ⟨#[]⟩, .slice none 0 0, .int .i64 0]) 3 48 Tryz.underlying29 hi hz0 hz1 hz2 rfl (by decide) v _ (fcells hs') hs h2 ad ks.length c (fcells ks) hx (fcells_len ks) hks
    (fcells_one fun h hh => by obtain ⟨ao, cp, e, _⟩ := hkb h hh; exact ⟨_, _, _, e⟩) hk0 (by unfold maxLen; omega) (by omega) hbase _ rfl (fun g cap w' e1 e2 _ _ => hK _ _ _ w' ⟨hs' ++ ks, by simp, ?_, fun h hh => ?_⟩ (kp_grown e2 (row_ge h2) hbase))
  · rw [fcells_app]; simpa using e1
  · rcases List.mem_append.1 hh with hh | hh
    · exact h3 h hh
    · exact hkb h hh
theorem Boxes.nextL {w w3 w4 : World} {x0 x1 x2 x3 x4 : Value} (h : Boxes w w3 x0 x1 x2 x3 x4) {L : List Nat} (k : Kp L w3.heap.size w3 w4) (hL : ∀ i ∈ L, w.heap.size + 2 ≤ i) : Boxes w w4 x0 x1 x2 x3 x4 :=
  ⟨h.kp.trans (k.shed (B' := w.heap.size) (fun i hi => by have := hL i hi; omega) (by have := h.size; omega)), Nat.le_trans h.size k.size, (k.block _ (by have := h.size; omega) (fun e => by have := hL _ e; omega)).trans h.box, (k.block _ (by have := h.size; omega) (fun e => by have := hL _ e; omega)).trans h.ans⟩
theorem Boxes.nextB {w w3 w4 : World} {x0 x1 x2 x3 x4 : Value} (h : Boxes w w3 x0 x1 x2 x3 x4) {L : List Nat} {B : Nat} (k : Kp L B w3 w4) (hB : w.heap.size + 2 ≤ B) (hL : ∀ i ∈ L, w.heap.size + 2 ≤ i) : Boxes w w4 x0 x1 x2 x3 x4 :=
  ⟨h.kp.trans (k.shed (B' := w.heap.size) (fun i hi => by have := hL i hi; omega) (by omega)), Nat.le_trans h.size k.size, (k.block _ (by omega) (fun e => by have := hL _ e; omega)).trans h.box, (k.block _ (by omega) (fun e => by have := hL _ e; omega)).trans h.ans⟩
theorem set1b {w : World} {r : Nat} {x0 x1 x2 x3 x4 : Value} {T : TypeId} (h : w.heap[r]? = some (.cells #[x0, x1, x2, x3, x4] T)) (v0 : Value) :
    (w.setCell ⟨r, 0, none⟩ v0).heap[r]? = some (.cells #[v0, x1, x2, x3, x4] T) := by
  simp [World.setCell, Array.getElem?_modify, h]
theorem crash_take {l : List F} {j : Nat} (hj : j < l.length) (K : Nat) : crashL K (l.take (j + 1)) = crashL K (l.take j) ++ [crash1 (spend K (l.take j)) l[j]] ∧ spend K (l.take (j + 1)) = spend K (l.take j) - min (l[j].b.length - l[j].lasts) (spend K (l.take j)) := by
  rw [List.take_succ_eq_append_getElem hj, crashL_append, spend_append]
  exact ⟨rfl, rfl⟩
set_option maxHeartbeats 8000000 in
set_option maxRecDepth 100000 in
theorem rCrash (d : Dk) (v : Value) (keep : Int) (w : World) (h : IsT w v d) (hkr : -9223372036854775808 ≤ keep ∧ keep ≤ 9223372036854775807) :
    Calls Tryz.prog 20 #[v, .int .i64 keep] w fun e w' => ∃ v', e = .returned v' ∧ IsT w' v' (d.crash keep) ∧ Kp [] w.heap.size w w' := by
  have HH := Lib.hid h
  obtain ⟨fv, left, rfl, hf, hl1, hl2, hl3, hok⟩ := h
  obtain ⟨ao, cap, rfl, -, -⟩ := hf.shape
  obtain ⟨m, hm⟩ : ∃ m, m = d.files.length := ⟨_, rfl⟩
  have hm8 : m ≤ 8 := by rw [hm]; exact hok.few
  have HFW : Hid (FilesR w 0 (.slice ao m cap) d.files) := by rw [hm]; exact hf
  rw [← hm] at HH ⊢
  have HM := Lib.hid hm
  have HOK := Lib.hid hok
  obtain ⟨K, hK⟩ : ∃ K, K = keep.toNat := ⟨_, rfl⟩
  have hKb : K ≤ 9223372036854775807 := by omega
  have HKK := Lib.hid hK
  have HSM := Lib.hid (fun f (hf : f ∈ d.files) => And.intro (hok.lasts f hf) (Nat.le_trans (used_mem hf) (Nat.le_trans hok.used hok.room)))
  clear hf hl1 hok hm hK
  go_enter Tryz.func20, Tryz.ntmps20
  go_upto_region 1 with fail
  go_cut [5] (fun l wx => l = .int .i64 (K : Int) ∧ Hid (wx = (w.alloc (.cells #[.slice ao m cap, .int .i64 (d.room : Int), .bool d.fuse.isSome, .int .i64 left, .bool d.dead] 31)).alloc (.cells #[.slice none 0 0, .int .i64 0, .bool false, .int .i64 0, .bool false] 31)))
  case first =>
    have hK := HKK.out
    go_wp2
    all_goals (go_meet; exact ⟨vint (by omega), rfl⟩)
  case rest =>
    obtain ⟨rfl, hcut⟩ := hcut
    have hW2 := hcut.out
    have B2 : Hid (Boxes w wc (.slice ao m cap) (.int .i64 (d.room : Int)) (.bool d.fuse.isSome) (.int .i64 left) (.bool d.dead)) := by rw [hW2]; exact Boxes.new w _ _ _ _ _
    have hz2 : wc.heap.size = w.heap.size + 2 := by rw [hW2]; simp
    clear hcut hW2
    obtain ⟨-, e1, -, -, -⟩ := B2.out.cells
    obtain ⟨gu, hgu⟩ : ∃ gu, gu = w.heap.size + 2 := ⟨_, rfl⟩
    have HI0 : Hid (∃ W3, W3 = wc.alloc (.cells #[.slice none 0 0, .int .i64 (d.room : Int), .bool false, .int .i64 0, .bool false] 31) ∧ W3.heap[gu]? = some (.cells #[.slice none 0 0, .int .i64 (d.room : Int), .bool false, .int .i64 0, .bool false] 31 (0, 0)) ∧ FilesO w W3 (gu + 1) (.slice none 0 0) (crashL K (d.files.take 0)) ∧ Boxes w W3 (.slice ao m cap) (.int .i64 (d.room : Int)) (.bool d.fuse.isSome) (.int .i64 left) (.bool d.dead) ∧ gu + 1 ≤ W3.heap.size) :=
      ⟨_, rfl, by rw [hgu, ← hz2]; exact World.alloc_heap_new wc _, by rw [List.take_zero]; exact FilesO.nil _ _ _, B2.out.next (kp1 _ _), by simp; omega⟩
    have HGU := Lib.hid hgu
    clear hgu
    go_wp2_with fail
    rw [show w.heap.size + 2 = gu from HGU.out.symm]
    go_loopw [5, 7] (fun l i wr => ∃ (j L : Nat) (lo : Option Addr) (ln cp : Nat), j ≤ m ∧ l = .int .i64 (L : Int) ∧ i = .int .i64 (j : Int) ∧ L ≤ K ∧ Hid (L = spend K (d.files.take j)) ∧ Hid (wr.heap[gu]? = some (.cells #[.slice lo ln cp, .int .i64 (d.room : Int), .bool false, .int .i64 0, .bool false] 31 (0, 0)) ∧ FilesO w wr (gu + 1) (.slice lo ln cp) (crashL K (d.files.take j)) ∧ Boxes w wr (.slice ao m cap) (.int .i64 (d.room : Int)) (.bool d.fuse.isSome) (.int .i64 left) (.bool d.dead) ∧ gu + 1 ≤ wr.heap.size)) (fun _ i _ => m - (intOf i).toNat)
    case atStart =>
      obtain ⟨W3, rfl, h1, h2, h3, h4⟩ := HI0.out
      exact ⟨0, K, none, 0, 0, by omega, rfl, rfl, Nat.le_refl _, rfl, h1, h2, h3, h4⟩
    case round =>
      obtain ⟨j, L, lo, ln, cp, hj, rfl, rfl, hLK, HL, HI⟩ := hrel
      obtain ⟨hU, hFO, hBx, hzr⟩ := HI.out
      have HU := Lib.hid hU
      have HFO := Lib.hid hFO
      have BX := Lib.hid hBx
      obtain ⟨e0, -, -, -, -⟩ := hBx.cells
      clear hU hFO hBx HI HI0 e1
      by_cases hlt : j < m
      · have hjd : j < d.files.length := by rw [← HM.out]; exact hlt
        obtain ⟨g, vb, hg0, -, hg, c0, c1, c2, hvb⟩ := HFW.out.at j hjd
        obtain ⟨bb, capb, rfl, -, -, -⟩ := id hvb
        subst hg0
        have HCT := Lib.hid (crash_take hjd K)
        obtain ⟨hfl1, hfl2⟩ := HSM.out d.files[j] (List.getElem_mem _)
        obtain ⟨f, hf⟩ : ∃ f, f = d.files[j] := ⟨_, rfl⟩
        rw [← hf] at c0 c1 c2 hvb HCT hfl1 hfl2
        have d0 := (BX.out.kp.cell (p := ⟨g, j * 3, none⟩) hg (by simp)).trans c0
        have d1 := (BX.out.kp.cell (p := ⟨g, j * 3 + 1, none⟩) hg (by simp)).trans c1
        have d2 := (BX.out.kp.cell (p := ⟨g, j * 3 + 2, none⟩) hg (by simp)).trans c2
        have HVB := Lib.hid hvb
        have hbc := hvb.cap.1
        obtain ⟨N, hN2⟩ : ∃ N, N = min (f.b.length - f.lasts) L := ⟨_, rfl⟩
        have HN2 := Lib.hid hN2
        rw [← HL.out, ← hN2] at HCT
        clear c0 c1 c2 hvb hf hN2
        go_upto_region 7 with fail
        go_cut [9] from 15 to 56 (fun n wx => n = .int .i64 (N : Int) ∧ Hid (wx = wr.alloc (.cells #[.string ⟨f.name.toArray⟩, .slice bb f.b.length capb, .int .i64 (f.lasts : Int)] 65)))
        case first =>
          have hNN := HN2.out
          go_wp2
          all_goals (go_meet; exact ⟨vint (by omega), rfl⟩)
        case rest =>
          obtain ⟨rfl, hcut⟩ := hcut
          have hNL : N ≤ L := by have := HN2.out; omega
          have hNf : f.lasts + N ≤ f.b.length := by have := HN2.out; omega
          have hwc := hcut.out
          have k9 : Kp [] wr.heap.size wr wc := by rw [hwc]; exact kp1 _ _
          have hz9 : wc.heap.size = wr.heap.size + 1 := by rw [hwc]; simp
          have hfb : wc.heap[wr.heap.size]? = some (.cells #[.string ⟨f.name.toArray⟩, .slice bb f.b.length capb, .int .i64 (f.lasts : Int)] 65 (0, 0)) := by rw [hwc]; exact World.alloc_heap_new wr _
          obtain ⟨k0, k1, k2⟩ := boxF hfb
          have HU9 := Lib.hid ((k9.block gu (by omega) (by simp)).trans HU.out)
          obtain ⟨r0, -, -, -, -⟩ := boxT HU9.out
          have hcI : ((f.lasts : Int) + (N : Int)) = ((f.lasts + N : Nat) : Int) := by omega
          have HFA : Hid (FilesO w (wc.alloc (.cells #[.string ⟨f.name.toArray⟩, .slice bb (f.lasts + N) capb, .int .i64 ((f.lasts : Int) + (N : Int))] 65)).drew (gu + 1) (.slice lo ln cp) (crashL K (d.files.take j))) := ((HFO.out.kp k9).kp (kp1 _ _)).kp ((Kp.refl [] _ _).drew 1)
          have HNEW : Hid (∀ j u, (fcells [(⟨f.name, f.b.take (f.lasts + N), f.lasts + N⟩, .slice bb (f.lasts + N) capb)])[j]? = some u → (wc.alloc (.cells #[.string ⟨f.name.toArray⟩, .slice bb (f.lasts + N) capb, .int .i64 ((f.lasts : Int) + (N : Int))] 65)).drew.cell? ((⟨wr.heap.size + 1, 0, none⟩ : Addr).add j) = some u) := by
            intro j u hu
            rw [hcI, ← hz9]
            exact one_news (⟨f.name, f.b.take (f.lasts + N), f.lasts + N⟩, .slice bb (f.lasts + N) capb) wc j u hu
          have HUA : Hid ((wc.alloc (.cells #[.string ⟨f.name.toArray⟩, .slice bb (f.lasts + N) capb, .int .i64 ((f.lasts : Int) + (N : Int))] 65)).drew.heap[gu]? = some (.cells #[.slice lo ln cp, .int .i64 (d.room : Int), .bool false, .int .i64 0, .bool false] 31 (0, 0))) := (Below.heap_alloc _ _ _ (by omega)).trans HU9.out
          have hlen : (crashL K (d.files.take j)).length ≤ 8 := by rw [crashL_length]; simp; omega
          have HVN : Hid (BytesV w (fun _ => True) (.slice bb (f.lasts + N) capb) (f.b.take (f.lasts + N))) := HVB.out.take _ hNf
          have hcmp : ((f.lasts : Int) + (N : Int) ≤ (capb : Int)) := by omega
          have hcmp0 : (0 : Int) ≤ (f.lasts : Int) + (N : Int) := by omega
          have hwr : IntKind.i64.wrap ((f.lasts : Int) + (N : Int)) = (f.lasts : Int) + (N : Int) := IntWalk.i64_in _ ⟨by omega, by omega⟩
          have hto : ((f.lasts : Int) + (N : Int)).toNat = f.lasts + N := by omega
          have K9 := Lib.hid k9
          clear hcut hwc hfb k9 d0 d1 d2 e0 hcI
          go_upto_region 9 with fail
          have hkd : Kp [] wc.heap.size wc (wc.alloc (.cells #[.string ⟨f.name.toArray⟩, .slice bb (f.lasts + N) capb, .int .i64 ((f.lasts : Int) + (N : Int))] 65)).drew := (kp1 _ _).drew 1
          have hgc : gu < wc.heap.size := by omega
          have hfc : wr.heap.size < wc.heap.size := by omega
          refine start_ (n := 20) (S := fun w' => w'.cell? ⟨gu, 0, none⟩ = some (.slice lo ln cp) ∧ w'.cell? ⟨wr.heap.size, 0, none⟩ = some (.string ⟨f.name.toArray⟩) ∧ w'.cell? ⟨wr.heap.size, 1, none⟩ = some (.slice bb f.b.length capb) ∧ w'.cell? ⟨wr.heap.size, 2, none⟩ = some (.int .i64 (f.lasts : Int))) (ds := [17, 19]) #[false, false, false, false, false, false, false, false, false, false, false, false, false, false, false, false, false, false, false, false] (by kernel_rfl) rfl rfl ⟨(by exact r0), (by exact k0), (by exact k1), (by exact k2)⟩ (fun hHeld => ?_)
          refine pure_ (i := 0) (N := some 38) (v := ?_) (a' := ?_) #[true, false, false, false, false, false, false, false, false, false, false, false, false, false, false, false, false, false, false, false] rfl rfl (by kernel_rfl) (fun _ _ _ h => h) (Or.inl ⟨by rfl, ?_⟩) ?_ ?_
          rotate_left
          · intro w'
            go_simp
            with_reducible rfl
          rotate_left
          · simp only [Act.put, List.setIfInBounds_toArray, List.set_cons_zero, List.set_cons_succ, i64_w, i32_w]
            rfl
          refine pure_ (i := 2) (N := some 40) (v := ?_) (a' := ?_) #[true, false, true, false, false, false, false, false, false, false, false, false, false, false, false, false, false, false, false, false] rfl rfl (by kernel_rfl) (fun _ _ _ h => h) (Or.inl ⟨by rfl, ?_⟩) ?_ ?_
          rotate_left
          · intro w'
            go_simp
            with_reducible rfl
          rotate_left
          · simp only [Act.put, List.setIfInBounds_toArray, List.set_cons_zero, List.set_cons_succ, i64_w, i32_w]
            rfl
          refine pure_ (i := 4) (N := some 42) (v := ?_) (a' := ?_) #[true, false, true, false, true, false, false, false, false, false, false, false, false, false, false, false, false, false, false, false] rfl rfl (by kernel_rfl) (fun _ _ _ h => h) (Or.inl ⟨by rfl, ?_⟩) ?_ ?_
          rotate_left
          · intro w'
            go_simp
            with_reducible rfl
          rotate_left
          · simp only [Act.put, List.setIfInBounds_toArray, List.set_cons_zero, List.set_cons_succ, i64_w, i32_w]
            rfl
          refine pure_ (i := 6) (N := some 44) (v := ?_) (a' := ?_) #[true, false, true, false, true, false, true, false, false, false, false, false, false, false, false, false, false, false, false, false] rfl rfl (by kernel_rfl) (fun _ _ _ h => h) (Or.inl ⟨by rfl, ?_⟩) ?_ ?_
          rotate_left
          · intro w'
            go_simp
            with_reducible rfl
          rotate_left
          · simp only [Act.put, List.setIfInBounds_toArray, List.set_cons_zero, List.set_cons_succ, i64_w, i32_w]
            rfl
          refine pure_ (i := 8) (N := some 46) (v := ?_) (a' := ?_) #[true, false, true, false, true, false, true, false, true, false, false, false, false, false, false, false, false, false, false, false] rfl rfl (by kernel_rfl) (fun _ _ _ h => h) (Or.inl ⟨by rfl, ?_⟩) ?_ ?_
          rotate_left
          · intro w'
            go_simp
            with_reducible rfl
          rotate_left
          · simp only [Act.put, List.setIfInBounds_toArray, List.set_cons_zero, List.set_cons_succ, i64_w, i32_w]
            rfl
          refine pure_ (i := 11) (N := some 49) (v := ?_) (a' := ?_) #[true, false, true, false, true, false, true, false, true, false, false, true, false, false, false, false, false, false, false, false] rfl rfl (by kernel_rfl) (fun _ _ _ h => h) (Or.inl ⟨by rfl, ?_⟩) ?_ ?_
          rotate_left
          · intro w'
            go_simp
            with_reducible rfl
          rotate_left
          · simp only [Act.put, List.setIfInBounds_toArray, List.set_cons_zero, List.set_cons_succ, i64_w, i32_w]
            rfl
          refine pure_ (i := 13) (N := some 51) (v := ?_) (a' := ?_) #[true, false, true, false, true, false, true, false, true, false, false, true, false, true, false, false, false, false, false, false] rfl rfl (by kernel_rfl) (fun _ _ _ h => h) (Or.inl ⟨by rfl, ?_⟩) ?_ ?_
          rotate_left
          · intro w'
            go_simp
            with_reducible rfl
          rotate_left
          · simp only [Act.put, List.setIfInBounds_toArray, List.set_cons_zero, List.set_cons_succ, i64_w, i32_w]
            rfl
          refine take_ (i := 1) (N := some 39) (v := ?_) (a' := ?_) #[true, true, true, false, true, false, true, false, true, false, false, true, false, true, false, false, false, false, false, false] rfl rfl (by kernel_rfl) (fun _ _ _ h => h) (Or.inl ⟨by rfl, ?_⟩) hHeld ?_ ?_
          rotate_left
          · rintro w' ⟨s0, s1, s2, s3⟩
            go_simp
            with_reducible rfl
          rotate_left
          · simp only [Act.put, List.setIfInBounds_toArray, List.set_cons_zero, List.set_cons_succ, i64_w, i32_w]
            rfl
          refine take_ (i := 3) (N := some 41) (v := ?_) (a' := ?_) #[true, true, true, true, true, false, true, false, true, false, false, true, false, true, false, false, false, false, false, false] rfl rfl (by kernel_rfl) (fun _ _ _ h => h) (Or.inl ⟨by rfl, ?_⟩) hHeld ?_ ?_
          rotate_left
          · rintro w' ⟨s0, s1, s2, s3⟩
            go_simp
            with_reducible rfl
          rotate_left
          · simp only [Act.put, List.setIfInBounds_toArray, List.set_cons_zero, List.set_cons_succ, i64_w, i32_w]
            rfl
          refine take_ (i := 5) (N := some 43) (v := ?_) (a' := ?_) #[true, true, true, true, true, true, true, false, true, false, false, true, false, true, false, false, false, false, false, false] rfl rfl (by kernel_rfl) (fun _ _ _ h => h) (Or.inl ⟨by rfl, ?_⟩) hHeld ?_ ?_
          rotate_left
          · rintro w' ⟨s0, s1, s2, s3⟩
            go_simp
            with_reducible rfl
          rotate_left
          · simp only [Act.put, List.setIfInBounds_toArray, List.set_cons_zero, List.set_cons_succ, i64_w, i32_w]
            rfl
          refine take_ (i := 7) (N := some 45) (v := ?_) (a' := ?_) #[true, true, true, true, true, true, true, true, true, false, false, true, false, true, false, false, false, false, false, false] rfl rfl (by kernel_rfl) (fun _ _ _ h => h) (Or.inl ⟨by rfl, ?_⟩) hHeld ?_ ?_
          rotate_left
          · rintro w' ⟨s0, s1, s2, s3⟩
            go_simp
            with_reducible rfl
          rotate_left
          · simp only [Act.put, List.setIfInBounds_toArray, List.set_cons_zero, List.set_cons_succ, i64_w, i32_w]
            rfl
          refine pure_ (i := 9) (N := some 47) (v := ?_) (a' := ?_) #[true, true, true, true, true, true, true, true, true, true, false, true, false, true, false, false, false, false, false, false] rfl rfl (by kernel_rfl) (fun _ _ _ h => h) (Or.inl ⟨by rfl, ?_⟩) ?_ ?_
          rotate_left
          · intro w'
            go_simp
            with_reducible rfl
          rotate_left
          · simp only [Act.put, List.setIfInBounds_toArray, List.set_cons_zero, List.set_cons_succ, i64_w, i32_w]
            rfl
          refine pure_ (i := 10) (N := some 48) (v := ?_) (a' := ?_) #[true, true, true, true, true, true, true, true, true, true, true, true, false, true, false, false, false, false, false, false] rfl rfl (by kernel_rfl) (fun _ _ _ h => h) (Or.inl ⟨by rfl, ?_⟩) ?_ ?_
          rotate_left
          · intro w'
            go_simp
            with_reducible rfl
          rotate_left
          · simp only [Act.put, List.setIfInBounds_toArray, List.set_cons_zero, List.set_cons_succ, i64_w, i32_w]
            rfl
          refine take_ (i := 12) (N := some 50) (v := ?_) (a' := ?_) #[true, true, true, true, true, true, true, true, true, true, true, true, true, true, false, false, false, false, false, false] rfl rfl (by kernel_rfl) (fun _ _ _ h => h) (Or.inl ⟨by rfl, ?_⟩) hHeld ?_ ?_
          rotate_left
          · rintro w' ⟨s0, s1, s2, s3⟩
            go_simp
            with_reducible rfl
          rotate_left
          · simp only [Act.put, List.setIfInBounds_toArray, List.set_cons_zero, List.set_cons_succ, i64_w, i32_w]
            rfl
          refine pure_ (i := 14) (N := some 52) (v := ?_) (a' := ?_) #[true, true, true, true, true, true, true, true, true, true, true, true, true, true, true, false, false, false, false, false] rfl rfl (by kernel_rfl) (fun _ _ _ h => h) (Or.inl ⟨by rfl, ?_⟩) ?_ ?_
          rotate_left
          · intro w'
            go_simp
            with_reducible rfl
          rotate_left
          · simp only [Act.put, List.setIfInBounds_toArray, List.set_cons_zero, List.set_cons_succ, i64_w, i32_w]
            rfl
          refine pure_ (i := 15) (N := some 53) (v := ?_) (a' := ?_) #[true, true, true, true, true, true, true, true, true, true, true, true, true, true, true, true, false, false, false, false] rfl rfl (by kernel_rfl) (fun _ _ _ h => h) (Or.inl ⟨by rfl, ?_⟩) ?_ ?_
          rotate_left
          · intro w'
            go_simp
            with_reducible rfl
          rotate_left
          · simp only [Act.put, List.setIfInBounds_toArray, List.set_cons_zero, List.set_cons_succ, i64_w, i32_w]
            rfl
          refine one_ (i := 16) (N := some 54) #[true, true, true, true, true, true, true, true, true, true, true, true, true, true, true, true, true, false, false, false] rfl rfl (by kernel_rfl) (by decide) (fun K hK => ?_)
          refine value_ (w1 := ?_) (v := ?_) (by rfl) rfl ?_ ?_
          rotate_left 2
          · go_simp
            constructor
            · rfl
            · rfl
          refine hK.out _ _ ⟨(by exact ((hkd.cell (p := ⟨gu, 0, none⟩) hgc (by simp)).trans r0)), (by exact ((hkd.cell (p := ⟨wr.heap.size, 0, none⟩) hfc (by simp)).trans k0)), (by exact ((hkd.cell (p := ⟨wr.heap.size, 1, none⟩) hfc (by simp)).trans k1)), (by exact ((hkd.cell (p := ⟨wr.heap.size, 2, none⟩) hfc (by simp)).trans k2))⟩ (fun hHeld => ?_)
          clear hK K
          refine norm_ (a' := ?_) ?_ ?_
          rotate_left
          · show Act.put _ (some 54) _ = _
            simp only [Act.put, List.setIfInBounds_toArray, List.set_cons_zero, List.set_cons_succ, i64_w, i32_w]
            rfl
          refine last_ (i := 17) (N := some 55) #[true, true, true, true, true, true, true, true, true, true, true, true, true, true, true, true, true, true, false, false] rfl rfl (by kernel_rfl) (by decide) (fun K hK => ?_)
          refine step_appF (w0 := w) rfl _ _ rfl (gu + 1) _ _ rfl HFA.out ⟨wr.heap.size + 1, 0, none⟩ 1 [(⟨f.name, f.b.take (f.lasts + N), f.lasts + N⟩, .slice bb (f.lasts + N) capb)] rfl HNEW.out (by simpa using HVN.out) (by simp; omega) (by simp) (by simp; omega) ?_
          intro lo' ln' cp' w7 hl7 k7
          have hu7 := (k7.block gu (by omega) (by simp)).trans HUA.out
          have x0 := (boxT hu7).1
          have y0 : w7.frozen? ⟨gu, 0, none⟩ = false := Lib.frozen_of_heap hu7 0
          have HL7 := Lib.hid hl7
          have HK7 := Lib.hid k7
          have HU7 := Lib.hid hu7
          clear hl7 k7 hu7
          refine hK.out _ _ ?_
          clear hK K
          refine norm_ (a' := ?_) ?_ ?_
          rotate_left
          · show Act.put _ (some 55) _ = _
            simp only [Act.put, List.setIfInBounds_toArray, List.set_cons_zero, List.set_cons_succ, i64_w, i32_w]
            rfl
          refine pure_ (i := 18) (N := some 56) (v := ?_) (a' := ?_) #[true, true, true, true, true, true, true, true, true, true, true, true, true, true, true, true, true, true, true, false] rfl rfl (by kernel_rfl) (fun _ _ _ h => h) (Or.inl ⟨by rfl, ?_⟩) ?_ ?_
          rotate_left
          · intro w'
            go_simp
            with_reducible rfl
          rotate_left
          · simp only [Act.put, List.setIfInBounds_toArray, List.set_cons_zero, List.set_cons_succ, i64_w, i32_w]
            rfl
          refine last_ (i := 19) (N := none) #[true, true, true, true, true, true, true, true, true, true, true, true, true, true, true, true, true, true, true, true] rfl rfl (by kernel_rfl) (by decide) (fun K hK => ?_)
          refine skip_ (w1 := ?_) (by rfl) rfl ?_ ?_
          rotate_left
          · go_simp
            rfl
          refine hK.out _ _ ?_
          clear hK K
          refine done_ (by kernel_rfl) ?_

          have kz := (Kp.refl [gu] w7.heap.size w7).setCell (b := gu) (.inr (by simp)) 0 none (.slice lo' ln' cp')
          have B8 := Lib.hid ((((BX.out.next K9.out).next ((kp1 wc (.cells #[.string ⟨f.name.toArray⟩, .slice bb (f.lasts + N) capb, .int .i64 ((f.lasts : Int) + (N : Int))] 65)).drew 1)).nextB HK7.out (by have := HGU.out; omega) (by simp)).nextL kz (by have := HGU.out; simp; omega))
          have U8 := Lib.hid (set1b HU7.out (.slice lo' ln' cp'))
          have F8 := Lib.hid (HL7.out.kpL kz (by simp))
          have hz8 : gu + 1 ≤ (w7.setCell ⟨gu, 0, none⟩ (.slice lo' ln' cp')).heap.size := by have := HK7.out.size; simp at this; simp; omega
          clear kz x0 y0 hcmp hcmp0 hwr hto r0 k0 k1 k2 hkd
          go_wp2_with fail
          go_roundw
          case rel =>
            obtain ⟨q1, q2⟩ := HCT.out
            refine ⟨j + 1, L - N, lo', ln', cp', by omega, vint (by omega), by go_num, by omega, q2.symm, U8.out, ?_, B8.out, hz8⟩
            have ec : crash1 L f = ⟨f.name, f.b.take (f.lasts + N), f.lasts + N⟩ := by unfold crash1; rw [← HN2.out]
            rw [q1, ec]
            exact F8.out
          case measure => simp [intOf]; omega
      · have hjm : m = j := by omega
        have hfull : d.files.take j = d.files := by rw [← hjm, HM.out]; exact List.take_length
        rw [hfull] at HFO
        subst hjm
        clear hfull
        go_wp2_with (first | (refine wpList_ldT rfl _ rfl _ _ rfl HU.out rfl ?_) | (refine wpList_stT rfl _ _ rfl _ _ _ _ _ _ _ rfl rfl BX.out.ans rfl ⟨rfl, rfl, rfl, rfl, rfl⟩ ?_; intro w4 hg4 k4 z4))
        have K4 := BX.out.kp.trans (k4.shed (B' := w.heap.size) (by simp) (by have := BX.out.size; omega))
        (try simp only [Exit.inBlock, Exit.then])
        refine bodyPost_ret (YtdabflkejhoghaaGreat.HW.results_single rfl (.cell (w.heap.size + 1) 31 _ (0, 0) _ rfl hg4 Tryz.underlying31 rfl infoT .nil)) rfl ?_
        refine ⟨_, rfl, ⟨_, 0, rfl, ?_, by simp [Dk.crash], by omega, by omega, HOK.out.crash keep⟩, K4⟩
        show FilesR _ 0 _ (crashL keep.toNat d.files)
        rw [← HKK.out]
        exact ((HFO.out.kpL k4 (by have := HGU.out; simp; omega)).base (Nat.zero_le _)).ref K4
end Go.Proofs.YtdabflkejhoghaaGreat.Hand
