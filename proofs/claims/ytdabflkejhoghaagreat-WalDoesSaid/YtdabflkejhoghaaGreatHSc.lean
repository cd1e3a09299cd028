/- The reference's disk: Append. -/
import Derived.Below
import Derived.Deep.Draws
import Derived.Deep.AppendLies
import Derived.Maps.AppendAt
import Derived.OwnWalk
import Derived.Laws.BytesArg
import Derived.Laws.MakeOwn
import Derived.Laws.OwnMore
import Derived.Deep.OwnRows
import Derived.Tactics
import Derived.Lib.ConvBytes
import Derived.Laws.Slices
import Derived.WalkKit
import Derived.KernelRfl
import Derived.RowKit3
import Derived.Deep.LoopGhost
import Derived.Deep.QuietTactic
import Derived.BigQuiet
import Derived.WideLaws
import Derived.Deep.DeepCutAuto
import Derived.Deep.CutBlock
import Derived.Deep.RegionHeld3
import Derived.Laws.Rows
import Derived.Lib.AppendStr
import Derived.ArgAppend
import Derived.Laws.IdiomCopy
import Derived.OrdersHeld
import Derived.Laws.BitsLemmas
import Derived.RowKit
import Derived.Outline
import Derived.Maps.Own
import Derived.Maps.OwnOps
import Derived.Maps.OwnSet
import Derived.Maps.Views
import Derived.Maps.RangeWalk
import Derived.Maps.Ext
import Derived.RangeFuncOwn
import Derived.OneCell
import Derived.Deep.DeepMust
import Derived.Lib.Hide
import Derived.StillTailTactics
import Derived.Laws.AppendOwnNone
import Derived.WalkMore
import Derived.Lib.SlBytesConst
import Derived.WalkLawsBesides
import Derived.Laws.BitsAllLaws
import Derived.Test.YtdabflkejhoghaaGreatWLast
import Derived.Test.YtdabflkejhoghaaGreatHWa
import Derived.Test.YtdabflkejhoghaaGreatHRd
import Derived.Test.YtdabflkejhoghaaGreatHQe
import Derived.Test.YtdabflkejhoghaaGreatHSb
namespace Go.Proofs.YtdabflkejhoghaaGreat.Hand
open Go Go.RowKit Go.Maps Go.WideMaps Go.Proofs.YtdabflkejhoghaaGreat.HW Go.Proofs.YtdabflkejhoghaaGreatW.PrintLast
set_option linter.unusedVariables false
set_option linter.unusedSimpArgs false
/-- some steps of an append: k were tried, n are done -/
def BurnI (d : Dk) (m k n : Nat) (ok : Bool) (e : Dk) : Prop :=
  (ok = true ∧ n = k ∧ e = ⟨d.files, d.room, d.fuse.map (· - k), false⟩ ∧ ∀ f, d.fuse = some f → k ≤ f) ∨ (ok = false ∧ d.fuse = some n ∧ n < m ∧ e = ⟨d.files, d.room, some 0, true⟩)
theorem BurnI.start {d : Dk} (m : Nat) (hd : d.dead = false) : BurnI d m 0 0 true d := by
  left
  refine ⟨rfl, rfl, ?_, fun f _ => Nat.zero_le _⟩
  obtain ⟨fs, r, fu, de⟩ := d
  simp only at hd
  subst hd
  simp
theorem BurnI.more {d e : Dk} {m k n : Nat} (h : BurnI d m k n true e) (hk : k < m) : n = k ∧ e.files = d.files ∧ e.room = d.room ∧ BurnI d m (k + 1) (if e.step.2 = true then k + 1 else k) e.step.2 e.step.1 := by
  rcases h with ⟨_, rfl, rfl, hf⟩ | ⟨h, _⟩
  · refine ⟨rfl, rfl, rfl, ?_⟩
    by_cases h0 : d.fuse = some n
    · have hs : Dk.step ⟨d.files, d.room, d.fuse.map (· - n), false⟩ = (⟨d.files, d.room, d.fuse.map (· - n), true⟩, false) := step_dead (.inr (by rw [h0]; simp))
      rw [hs]
      right
      exact ⟨rfl, by simpa using h0, by simpa using hk, by rw [h0]; simp⟩
    · have hs : Dk.step ⟨d.files, d.room, d.fuse.map (· - n), false⟩ = (⟨d.files, d.room, (d.fuse.map (· - n)).map (· - 1), false⟩, true) := step_live rfl (by
        intro e
        cases hfu : d.fuse with
        | none => rw [hfu] at e; cases e
        | some f => rw [hfu] at e h0; simp at e h0; have := hf f hfu; omega)
      rw [hs]
      left
      refine ⟨rfl, by simp, ?_, fun f hfu => ?_⟩
      · cases hfu : d.fuse with
        | none => simp
        | some f => simp; omega
      · have := hf f hfu
        have : f ≠ n := fun e => h0 (by rw [hfu, e])
        omega
  · cases h
theorem BurnI.done {d e : Dk} {m k n : Nat} {ok : Bool} (h : BurnI d m k n ok e) (hk : ok = true → k = m) : n = d.burn m ∧ ok = decide (d.burn m = m) ∧ e = ⟨d.files, d.room, d.fuse.map (· - d.burn m), decide (d.burn m < m)⟩ := by
  rcases h with ⟨rfl, rfl, rfl, hf⟩ | ⟨rfl, hf, hn, rfl⟩
  · obtain rfl := hk rfl
    have hb : d.burn n = n := by
      unfold Dk.burn
      cases hfu : d.fuse with
      | none => rfl
      | some f => have := hf f hfu; simp; omega
    rw [hb]; simp
  · have hb : d.burn m = n := by unfold Dk.burn; rw [hf]; simp; omega
    rw [hb, hf]
    refine ⟨rfl, ?_, ?_⟩
    · symm; simp; omega
    · simp [hn]
theorem BurnI.le {d e : Dk} {m k n : Nat} {ok : Bool} (h : BurnI d m k n ok e) (hk : k ≤ m) : n ≤ m := by
  rcases h with ⟨_, rfl, _⟩ | ⟨_, _, h, _⟩ <;> omega
theorem Boxes.put {w w3 w4 : World} {x0 x1 x2 x3 x4 y0 y1 y2 y3 y4 : Value} (h : Boxes w w3 x0 x1 x2 x3 x4) (k : Kp [w.heap.size] w3.heap.size w3 w4) (hb : w4.heap[w.heap.size]? = some (.cells #[y0, y1, y2, y3, y4] 31 (0, 0))) : Boxes w w4 y0 y1 y2 y3 y4 :=
  ⟨h.kp.trans (k.shed (B' := w.heap.size) (by simp) (by have := h.size; omega)), Nat.le_trans h.size k.size, hb, (k.block _ (by have := h.size; omega) (by simp)).trans h.ans⟩
theorem BytesV.shun {w w' : World} {A : Nat → Prop} {v : Value} {b : List UInt8} {r : Nat} {cs : Array Value} {T : TypeId} {fr : Nat × Nat} (h : BytesV w A v b) (hr : w.heap[r]? = some (.cells cs T fr)) (hcs : ∀ (j : Nat) (x : Value), cs[j]? = some x → ∀ (n : Int), x ≠ .int .u8 n) (hk : Kp [r] w.heap.size w w') : BytesV w' A v b := by
  have h2 : BytesV w (fun k => A k ∧ k ≠ r) v b := by
    obtain ⟨ao, cap, rfl, h1, h2, h3⟩ := h
    refine ⟨ao, cap, rfl, h1, h2, h3.imp id fun ⟨a, e, h4, h5⟩ => ⟨a, e, fun hb => ⟨⟨(h4 hb).1, fun ea => ?_⟩, (h4 hb).2⟩, h5⟩⟩
    obtain ⟨n, h0⟩ : ∃ n, w.cell? (a.add 0) = some (.int .u8 n) := ⟨_, h5 0 (by cases b with | nil => exact absurd rfl hb | cons => simp)⟩
    have e0 : a.add 0 = a := by unfold Addr.add; rw [if_pos rfl]
    have e1 : w.heap[a.block]? = some (.cells cs T fr) := by rw [ea]; exact hr
    rw [e0] at h0
    unfold World.cell? at h0
    rw [e1] at h0
    simp only at h0
    split at h0
    · cases h0
    · exact hcs _ _ h0 _ rfl
  exact h2.mono hk.size (fun k hk1 hk2 => ⟨hk1.1, hk.block k hk2 (by simpa using hk1.2)⟩)
theorem ans_shun (j : Nat) (x : Value) (h : (#[.slice none 0 0, .int .i64 0, .bool false, .int .i64 0, .bool false] : Array Value)[j]? = some x) (n : Int) : x ≠ .int .u8 n := by
  match j, h with
  | 0, h => simp at h; subst h; simp
  | 1, h => simp at h; subst h; simp
  | 2, h => simp at h; subst h; simp
  | 3, h => simp at h; subst h; simp
  | 4, h => simp at h; subst h; simp
  | j + 5, h => simp at h
theorem FilesO.shun {w0 w w' : World} {base : Nat} {v : Value} {l : List F} {r : Nat} (h : FilesO w0 w base v l) (hk0 : Kp [] w0.heap.size w0 w) (hr : w.heap[r]? = some (.cells #[.slice none 0 0, .int .i64 0, .bool false, .int .i64 0, .bool false] 31 (0, 0))) (hb : r < base) (hk : Kp [r] w.heap.size w w') : FilesR w' 0 v l := by
  obtain ⟨hs, h1, h2, h3⟩ := FilesO.kpL h hk (by simpa using hb)
  exact ⟨hs, h1, row_base h2 (Nat.zero_le _), fun h hh => ((h3 h hh).kp hk0 (by simp)).shun hr ans_shun hk⟩
theorem refuses_eq {d : Dk} {s : List UInt8} {m U : Nat} {R a b c e : Bool} (hU : U = used d.files) (hR : R = d.refuses s m) (ha : named s = a) (hb : decide (d.room < U + m) = b) (hc : (!d.there s && decide (8 ≤ d.files.length)) = c) (he : d.dead = e) : R = (e || (!a || (b || c))) := by
  rw [hR, ← ha, ← hb, ← hc, ← he, hU]; rfl
set_option maxHeartbeats 8000000 in
set_option maxRecDepth 100000 in
theorem rAppend {A : Nat → Prop} (d : Dk) (v : Value) (s b : List UInt8) (vb : Value) (w : World) (h : IsT w v d) (hb : BytesV w A vb b) (hs : s.length ≤ maxLen) (hbl : b.length ≤ 140737488355328) :
    Calls Tryz.prog 50 #[v, .string ⟨s.toArray⟩, vb] w fun e w' => ∃ v', e = .returned (.tuple #[v', .bool (d.append s b).2]) ∧ IsT w' v' (d.append s b).1 ∧ Kp [] w.heap.size w w' := by
  have HH := Lib.hid h
  have HB := Lib.hid hb.low
  obtain ⟨bo, bc, rfl, hbc, -, -⟩ := id hb
  obtain ⟨m, hm⟩ : ∃ m, m = b.length := ⟨_, rfl⟩
  rw [← hm] at HB hbl hbc ⊢
  have HMB := Lib.hid hm
  obtain ⟨fv, left, rfl, hf, hl1, hl2, hl3, hok⟩ := h
  obtain ⟨ao, cap, rfl, -, -⟩ := hf.shape
  obtain ⟨fm, hfm⟩ : ∃ fm, fm = d.files.length := ⟨_, rfl⟩
  have hm8 : fm ≤ 8 := by rw [hfm]; exact hok.few
  have HFW : Hid (FilesR w 0 (.slice ao fm cap) d.files) := by rw [hfm]; exact hf
  rw [← hfm] at HH ⊢
  have HM := Lib.hid hfm
  obtain ⟨U, hUe⟩ : ∃ U, U = used d.files := ⟨_, rfl⟩
  have HU := Lib.hid hUe
  have hU : U ≤ 1048576 := by rw [hUe]; exact Nat.le_trans hok.used hok.room
  have hrm : d.room ≤ 1048576 := hok.room
  obtain ⟨R, hR⟩ : ∃ R, R = d.refuses s m := ⟨_, rfl⟩
  have HR := Lib.hid hR
  have HOKA := Lib.hid (hok.append s b)
  have HOLD := Lib.hid (old_len hok s)
  clear hf hl1 hok hfm hm hb hUe hR
  go_enter Tryz.func50, Tryz.ntmps50
  go_wp2_with fail
  have B2 := Lib.hid (Boxes.new w (.slice ao fm cap) (.int .i64 (d.room : Int)) (.bool d.fuse.isSome) (.int .i64 left) (.bool d.dead))
  obtain ⟨W2, hW2⟩ : ∃ W2, W2 = (w.alloc (.cells #[.slice ao fm cap, .int .i64 (d.room : Int), .bool d.fuse.isSome, .int .i64 left, .bool d.dead] 31)).alloc (.cells #[.slice none 0 0, .int .i64 0, .bool false, .int .i64 0, .bool false] 31) := ⟨_, rfl⟩
  rw [← hW2] at B2 ⊢
  clear hW2
  refine (rfind d _ s W2 (HH.out.kp B2.out.kp)).mono ?_
  rintro e w3 ⟨rfl, k3⟩
  have B3 := Lib.hid (B2.out.next k3)
  have HH3 := Lib.hid (HH.out.kp B3.out.kp)
  clear k3 B2
  obtain ⟨i, hi⟩ : ∃ i, i = findI d.files s := ⟨_, rfl⟩
  have HI := Lib.hid hi
  rw [← hi]
  clear hi
  go_upto_region 2 with fail
  go_cut [44] (fun r wx => r = .bool R ∧ Hid (Kp [] w3.heap.size w3 wx))
  case first =>
    have hkz : Kp [] w3.heap.size w3 w3.drew := (Kp.refl _ _ _).drew 1
    have hbz : w.heap.size < w3.heap.size := by have := B3.out.size; omega
    obtain ⟨e0, e1, e2, e3, e4⟩ := B3.out.cells
    have hused : ∀ W, Kp [] w3.heap.size w3 W → Calls Tryz.prog 74 #[.agg #[.slice ao fm cap, .int .i64 (d.room : Int), .bool d.fuse.isSome, .int .i64 left, .bool d.dead]] W fun e w' => e = .returned (.int .i64 (U : Int)) ∧ Kp [] W.heap.size W w' := fun W hk => by
      rw [HU.out]; exact rUsed d _ W (HH3.out.kp hk)
    have hw64 : wrap64 ((U : Int) + (m : Int)) = (U : Int) + (m : Int) := by rw [← i64_w]; exact IntWalk.i64_in _ ⟨by omega, by omega⟩
    cases hn : named s with
    | false =>
      have hR : R = true := by have := refuses_eq HU.out HR.out hn rfl rfl rfl; rw [this]; simp
      have hnmd : ∀ W, Calls Tryz.prog 73 #[.string ⟨s.toArray⟩] W fun e w' => e = .returned (.bool false) ∧ W = w' := fun W => by rw [← hn]; exact rname s W hs
      subst hR
      refine start_ (n := 27) (S := fun w' => w'.cell? ⟨w.heap.size, 0, none⟩ = some (.slice ao fm cap) ∧ w'.cell? ⟨w.heap.size, 1, none⟩ = some (.int .i64 (d.room : Int)) ∧ w'.cell? ⟨w.heap.size, 2, none⟩ = some (.bool d.fuse.isSome) ∧ w'.cell? ⟨w.heap.size, 3, none⟩ = some (.int .i64 left) ∧ w'.cell? ⟨w.heap.size, 4, none⟩ = some (.bool d.dead) ∧ Kp [] w3.heap.size w3 w') (ds := []) #[false, false, false, false, false, false, false, false, false, false, false, false, false, false, false, false, false, false, false, false, false, false, false, false, false, false, false] (by kernel_rfl) rfl rfl ⟨(by exact e0), (by exact e1), (by exact e2), (by exact e3), (by exact e4), hkz⟩ (fun hHeld => ?_)
      refine pure_ (i := 0) (N := some 18) (v := ?_) (a' := ?_) #[true, false, false, false, false, false, false, false, false, false, false, false, false, false, false, false, false, false, false, false, false, false, false, false, false, false, false] rfl rfl (by kernel_rfl) (fun _ _ _ h => h) (Or.inl ⟨by rfl, ?_⟩) ?_ ?_
      rotate_left
      · intro w'
        go_simp
        with_reducible rfl
      rotate_left
      · simp only [Act.put, List.setIfInBounds_toArray, List.set_cons_zero, List.set_cons_succ, i64_w, i32_w]
        rfl
      refine one_ (i := 1) (N := some 19) #[true, true, false, false, false, false, false, false, false, false, false, false, false, false, false, false, false, false, false, false, false, false, false, false, false, false, false] rfl rfl (by kernel_rfl) (by decide) (fun K hK => ?_)
      refine goes_ Tryz.func73 (by kernel_rfl) rfl #[.string ⟨s.toArray⟩] (by rfl) rfl rfl (by simp only [List.map_toArray, List.map_cons, List.map_nil]; rfl) ?_
      with_reducible refine (hnmd _).mono ?_
      rintro e w5 ⟨rfl, rfl⟩
      refine ⟨_, rfl, ?_⟩
      refine hK.out _ _ ⟨(by exact hHeld.1), (by exact hHeld.2.1), (by exact hHeld.2.2.1), (by exact hHeld.2.2.2.1), (by exact hHeld.2.2.2.2.1), (by exact hHeld.2.2.2.2.2)⟩ (fun hHeld => ?_)
      clear hK K
      refine norm_ (a' := ?_) ?_ ?_
      rotate_left
      · show Act.put _ (some 19) _ = _
        simp only [Act.put, List.setIfInBounds_toArray, List.set_cons_zero, List.set_cons_succ, i64_w, i32_w]
        rfl
      refine pure_ (i := 2) (N := some 20) (v := ?_) (a' := ?_) #[true, true, true, false, false, false, false, false, false, false, false, false, false, false, false, false, false, false, false, false, false, false, false, false, false, false, false] rfl rfl (by kernel_rfl) (fun _ _ _ h => h) (Or.inl ⟨by rfl, ?_⟩) ?_ ?_
      rotate_left
      · intro w'
        go_simp
        with_reducible rfl
      rotate_left
      · simp only [Act.put, List.setIfInBounds_toArray, List.set_cons_zero, List.set_cons_succ, i64_w, i32_w]
        rfl
      refine pure_ (i := 3) (N := some 21) (v := ?_) (a' := ?_) #[true, true, true, true, false, false, false, false, false, false, false, false, false, false, false, false, false, false, false, false, false, false, false, false, false, false, false] rfl rfl (by kernel_rfl) (fun _ _ _ h => h) (Or.inl ⟨by rfl, ?_⟩) ?_ ?_
      rotate_left
      · intro w'
        go_simp
        with_reducible rfl
      rotate_left
      · simp only [Act.put, List.setIfInBounds_toArray, List.set_cons_zero, List.set_cons_succ, i64_w, i32_w]
        rfl
      refine pure_ (i := 4) (N := some 22) (v := undef) (a' := ?_) #[true, true, true, true, true, false, false, false, false, false, false, false, false, false, false, false, false, false, false, false, false, false, false, false, false, false, false] rfl rfl (by kernel_rfl) (fun _ _ _ h => h) (Or.inr ⟨by rfl, rfl⟩) ?_ ?_
      rotate_left
      · simp only [Act.put, List.setIfInBounds_toArray, List.set_cons_zero, List.set_cons_succ, i64_w, i32_w]
        rfl
      refine pure_ (i := 5) (N := some 23) (v := undef) (a' := ?_) #[true, true, true, true, true, true, false, false, false, false, false, false, false, false, false, false, false, false, false, false, false, false, false, false, false, false, false] rfl rfl (by kernel_rfl) (fun _ _ _ h => h) (Or.inr ⟨by rfl, rfl⟩) ?_ ?_
      rotate_left
      · simp only [Act.put, List.setIfInBounds_toArray, List.set_cons_zero, List.set_cons_succ, i64_w, i32_w]
        rfl
      refine pure_ (i := 6) (N := some 24) (v := undef) (a' := ?_) #[true, true, true, true, true, true, true, false, false, false, false, false, false, false, false, false, false, false, false, false, false, false, false, false, false, false, false] rfl rfl (by kernel_rfl) (fun _ _ _ h => h) (Or.inr ⟨by rfl, rfl⟩) ?_ ?_
      rotate_left
      · simp only [Act.put, List.setIfInBounds_toArray, List.set_cons_zero, List.set_cons_succ, i64_w, i32_w]
        rfl
      refine pure_ (i := 7) (N := some 25) (v := undef) (a' := ?_) #[true, true, true, true, true, true, true, true, false, false, false, false, false, false, false, false, false, false, false, false, false, false, false, false, false, false, false] rfl rfl (by kernel_rfl) (fun _ _ _ h => h) (Or.inr ⟨by rfl, rfl⟩) ?_ ?_
      rotate_left
      · simp only [Act.put, List.setIfInBounds_toArray, List.set_cons_zero, List.set_cons_succ, i64_w, i32_w]
        rfl
      refine pure_ (i := 8) (N := some 26) (v := undef) (a' := ?_) #[true, true, true, true, true, true, true, true, true, false, false, false, false, false, false, false, false, false, false, false, false, false, false, false, false, false, false] rfl rfl (by kernel_rfl) (fun _ _ _ h => h) (Or.inr ⟨by rfl, rfl⟩) ?_ ?_
      rotate_left
      · simp only [Act.put, List.setIfInBounds_toArray, List.set_cons_zero, List.set_cons_succ, i64_w, i32_w]
        rfl
      refine pure_ (i := 9) (N := some 27) (v := undef) (a' := ?_) #[true, true, true, true, true, true, true, true, true, true, false, false, false, false, false, false, false, false, false, false, false, false, false, false, false, false, false] rfl rfl (by kernel_rfl) (fun _ _ _ h => h) (Or.inr ⟨by rfl, rfl⟩) ?_ ?_
      rotate_left
      · simp only [Act.put, List.setIfInBounds_toArray, List.set_cons_zero, List.set_cons_succ, i64_w, i32_w]
        rfl
      refine pure_ (i := 10) (N := some 28) (v := undef) (a' := ?_) #[true, true, true, true, true, true, true, true, true, true, true, false, false, false, false, false, false, false, false, false, false, false, false, false, false, false, false] rfl rfl (by kernel_rfl) (fun _ _ _ h => h) (Or.inr ⟨by rfl, rfl⟩) ?_ ?_
      rotate_left
      · simp only [Act.put, List.setIfInBounds_toArray, List.set_cons_zero, List.set_cons_succ, i64_w, i32_w]
        rfl
      refine pure_ (i := 11) (N := some 29) (v := undef) (a' := ?_) #[true, true, true, true, true, true, true, true, true, true, true, true, false, false, false, false, false, false, false, false, false, false, false, false, false, false, false] rfl rfl (by kernel_rfl) (fun _ _ _ h => h) (Or.inr ⟨by rfl, rfl⟩) ?_ ?_
      rotate_left
      · simp only [Act.put, List.setIfInBounds_toArray, List.set_cons_zero, List.set_cons_succ, i64_w, i32_w]
        rfl
      refine pure_ (i := 12) (N := some 30) (v := ?_) (a' := ?_) #[true, true, true, true, true, true, true, true, true, true, true, true, true, false, false, false, false, false, false, false, false, false, false, false, false, false, false] rfl rfl (by kernel_rfl) (fun _ _ _ h => h) (Or.inl ⟨by rfl, ?_⟩) ?_ ?_
      rotate_left
      · intro w'
        go_simp
        with_reducible rfl
      rotate_left
      · simp only [Act.put, List.setIfInBounds_toArray, List.set_cons_zero, List.set_cons_succ, i64_w, i32_w]
        rfl
      refine pure_ (i := 13) (N := some 31) (v := ?_) (a' := ?_) #[true, true, true, true, true, true, true, true, true, true, true, true, true, true, false, false, false, false, false, false, false, false, false, false, false, false, false] rfl rfl (by kernel_rfl) (fun _ _ _ h => h) (Or.inl ⟨by rfl, ?_⟩) ?_ ?_
      rotate_left
      · intro w'
        go_simp
        with_reducible rfl
      rotate_left
      · simp only [Act.put, List.setIfInBounds_toArray, List.set_cons_zero, List.set_cons_succ, i64_w, i32_w]
        rfl
      refine pure_ (i := 14) (N := some 32) (v := undef) (a' := ?_) #[true, true, true, true, true, true, true, true, true, true, true, true, true, true, true, false, false, false, false, false, false, false, false, false, false, false, false] rfl rfl (by kernel_rfl) (fun _ _ _ h => h) (Or.inr ⟨by rfl, rfl⟩) ?_ ?_
      rotate_left
      · simp only [Act.put, List.setIfInBounds_toArray, List.set_cons_zero, List.set_cons_succ, i64_w, i32_w]
        rfl
      refine pure_ (i := 15) (N := some 33) (v := undef) (a' := ?_) #[true, true, true, true, true, true, true, true, true, true, true, true, true, true, true, true, false, false, false, false, false, false, false, false, false, false, false] rfl rfl (by kernel_rfl) (fun _ _ _ h => h) (Or.inr ⟨by rfl, rfl⟩) ?_ ?_
      rotate_left
      · simp only [Act.put, List.setIfInBounds_toArray, List.set_cons_zero, List.set_cons_succ, i64_w, i32_w]
        rfl
      refine pure_ (i := 16) (N := some 34) (v := undef) (a' := ?_) #[true, true, true, true, true, true, true, true, true, true, true, true, true, true, true, true, true, false, false, false, false, false, false, false, false, false, false] rfl rfl (by kernel_rfl) (fun _ _ _ h => h) (Or.inr ⟨by rfl, rfl⟩) ?_ ?_
      rotate_left
      · simp only [Act.put, List.setIfInBounds_toArray, List.set_cons_zero, List.set_cons_succ, i64_w, i32_w]
        rfl
      refine pure_ (i := 17) (N := some 35) (v := undef) (a' := ?_) #[true, true, true, true, true, true, true, true, true, true, true, true, true, true, true, true, true, true, false, false, false, false, false, false, false, false, false] rfl rfl (by kernel_rfl) (fun _ _ _ h => h) (Or.inr ⟨by rfl, rfl⟩) ?_ ?_
      rotate_left
      · simp only [Act.put, List.setIfInBounds_toArray, List.set_cons_zero, List.set_cons_succ, i64_w, i32_w]
        rfl
      refine pure_ (i := 18) (N := some 36) (v := undef) (a' := ?_) #[true, true, true, true, true, true, true, true, true, true, true, true, true, true, true, true, true, true, true, false, false, false, false, false, false, false, false] rfl rfl (by kernel_rfl) (fun _ _ _ h => h) (Or.inr ⟨by rfl, rfl⟩) ?_ ?_
      rotate_left
      · simp only [Act.put, List.setIfInBounds_toArray, List.set_cons_zero, List.set_cons_succ, i64_w, i32_w]
        rfl
      refine pure_ (i := 19) (N := some 37) (v := undef) (a' := ?_) #[true, true, true, true, true, true, true, true, true, true, true, true, true, true, true, true, true, true, true, true, false, false, false, false, false, false, false] rfl rfl (by kernel_rfl) (fun _ _ _ h => h) (Or.inr ⟨by rfl, rfl⟩) ?_ ?_
      rotate_left
      · simp only [Act.put, List.setIfInBounds_toArray, List.set_cons_zero, List.set_cons_succ, i64_w, i32_w]
        rfl
      refine pure_ (i := 20) (N := some 38) (v := undef) (a' := ?_) #[true, true, true, true, true, true, true, true, true, true, true, true, true, true, true, true, true, true, true, true, true, false, false, false, false, false, false] rfl rfl (by kernel_rfl) (fun _ _ _ h => h) (Or.inr ⟨by rfl, rfl⟩) ?_ ?_
      rotate_left
      · simp only [Act.put, List.setIfInBounds_toArray, List.set_cons_zero, List.set_cons_succ, i64_w, i32_w]
        rfl
      refine pure_ (i := 21) (N := some 39) (v := undef) (a' := ?_) #[true, true, true, true, true, true, true, true, true, true, true, true, true, true, true, true, true, true, true, true, true, true, false, false, false, false, false] rfl rfl (by kernel_rfl) (fun _ _ _ h => h) (Or.inr ⟨by rfl, rfl⟩) ?_ ?_
      rotate_left
      · simp only [Act.put, List.setIfInBounds_toArray, List.set_cons_zero, List.set_cons_succ, i64_w, i32_w]
        rfl
      refine pure_ (i := 22) (N := some 40) (v := ?_) (a' := ?_) #[true, true, true, true, true, true, true, true, true, true, true, true, true, true, true, true, true, true, true, true, true, true, true, false, false, false, false] rfl rfl (by kernel_rfl) (fun _ _ _ h => h) (Or.inl ⟨by rfl, ?_⟩) ?_ ?_
      rotate_left
      · intro w'
        go_simp
        with_reducible rfl
      rotate_left
      · simp only [Act.put, List.setIfInBounds_toArray, List.set_cons_zero, List.set_cons_succ, i64_w, i32_w]
        rfl
      refine pure_ (i := 23) (N := some 41) (v := ?_) (a' := ?_) #[true, true, true, true, true, true, true, true, true, true, true, true, true, true, true, true, true, true, true, true, true, true, true, true, false, false, false] rfl rfl (by kernel_rfl) (fun _ _ _ h => h) (Or.inl ⟨by rfl, ?_⟩) ?_ ?_
      rotate_left
      · intro w'
        go_simp
        with_reducible rfl
      rotate_left
      · simp only [Act.put, List.setIfInBounds_toArray, List.set_cons_zero, List.set_cons_succ, i64_w, i32_w]
        rfl
      refine pure_ (i := 24) (N := some 42) (v := undef) (a' := ?_) #[true, true, true, true, true, true, true, true, true, true, true, true, true, true, true, true, true, true, true, true, true, true, true, true, true, false, false] rfl rfl (by kernel_rfl) (fun _ _ _ h => h) (Or.inr ⟨by rfl, rfl⟩) ?_ ?_
      rotate_left
      · simp only [Act.put, List.setIfInBounds_toArray, List.set_cons_zero, List.set_cons_succ, i64_w, i32_w]
        rfl
      refine pure_ (i := 25) (N := some 43) (v := undef) (a' := ?_) #[true, true, true, true, true, true, true, true, true, true, true, true, true, true, true, true, true, true, true, true, true, true, true, true, true, true, false] rfl rfl (by kernel_rfl) (fun _ _ _ h => h) (Or.inr ⟨by rfl, rfl⟩) ?_ ?_
      rotate_left
      · simp only [Act.put, List.setIfInBounds_toArray, List.set_cons_zero, List.set_cons_succ, i64_w, i32_w]
        rfl
      refine pure_ (i := 26) (N := some 44) (v := ?_) (a' := ?_) #[true, true, true, true, true, true, true, true, true, true, true, true, true, true, true, true, true, true, true, true, true, true, true, true, true, true, true] rfl rfl (by kernel_rfl) (fun _ _ _ h => h) (Or.inl ⟨by rfl, ?_⟩) ?_ ?_
      rotate_left
      · intro w'
        go_simp
        with_reducible rfl
      rotate_left
      · simp only [Act.put, List.setIfInBounds_toArray, List.set_cons_zero, List.set_cons_succ, i64_w, i32_w]
        rfl
      refine done_ (by kernel_rfl) ?_

      go_wp2
      go_meet
      exact ⟨rfl, hkz⟩
    | true =>
      have hnmd : ∀ W, Calls Tryz.prog 73 #[.string ⟨s.toArray⟩] W fun e w' => e = .returned (.bool true) ∧ W = w' := fun W => by rw [← hn]; exact rname s W hs
      by_cases hro : d.room < U + m
      · have hR : R = true := by have := refuses_eq HU.out HR.out hn (decide_eq_true hro) rfl rfl; rw [this]; simp
        have dr : decide ((d.room : Int) < (U : Int) + (m : Int)) = true := decide_eq_true (by clear hw64; omega)
        subst hR
        refine start_ (n := 27) (S := fun w' => w'.cell? ⟨w.heap.size, 0, none⟩ = some (.slice ao fm cap) ∧ w'.cell? ⟨w.heap.size, 1, none⟩ = some (.int .i64 (d.room : Int)) ∧ w'.cell? ⟨w.heap.size, 2, none⟩ = some (.bool d.fuse.isSome) ∧ w'.cell? ⟨w.heap.size, 3, none⟩ = some (.int .i64 left) ∧ w'.cell? ⟨w.heap.size, 4, none⟩ = some (.bool d.dead) ∧ Kp [] w3.heap.size w3 w') (ds := []) #[false, false, false, false, false, false, false, false, false, false, false, false, false, false, false, false, false, false, false, false, false, false, false, false, false, false, false] (by kernel_rfl) rfl rfl ⟨(by exact e0), (by exact e1), (by exact e2), (by exact e3), (by exact e4), hkz⟩ (fun hHeld => ?_)
        refine pure_ (i := 0) (N := some 18) (v := ?_) (a' := ?_) #[true, false, false, false, false, false, false, false, false, false, false, false, false, false, false, false, false, false, false, false, false, false, false, false, false, false, false] rfl rfl (by kernel_rfl) (fun _ _ _ h => h) (Or.inl ⟨by rfl, ?_⟩) ?_ ?_
        rotate_left
        · intro w'
          go_simp
          with_reducible rfl
        rotate_left
        · simp only [Act.put, List.setIfInBounds_toArray, List.set_cons_zero, List.set_cons_succ, i64_w, i32_w]
          rfl
        refine one_ (i := 1) (N := some 19) #[true, true, false, false, false, false, false, false, false, false, false, false, false, false, false, false, false, false, false, false, false, false, false, false, false, false, false] rfl rfl (by kernel_rfl) (by decide) (fun K hK => ?_)
        refine goes_ Tryz.func73 (by kernel_rfl) rfl #[.string ⟨s.toArray⟩] (by rfl) rfl rfl (by simp only [List.map_toArray, List.map_cons, List.map_nil]; rfl) ?_
        with_reducible refine (hnmd _).mono ?_
        rintro e w5 ⟨rfl, rfl⟩
        refine ⟨_, rfl, ?_⟩
        refine hK.out _ _ ⟨(by exact hHeld.1), (by exact hHeld.2.1), (by exact hHeld.2.2.1), (by exact hHeld.2.2.2.1), (by exact hHeld.2.2.2.2.1), (by exact hHeld.2.2.2.2.2)⟩ (fun hHeld => ?_)
        clear hK K
        refine norm_ (a' := ?_) ?_ ?_
        rotate_left
        · show Act.put _ (some 19) _ = _
          simp only [Act.put, List.setIfInBounds_toArray, List.set_cons_zero, List.set_cons_succ, i64_w, i32_w]
          rfl
        refine pure_ (i := 2) (N := some 20) (v := ?_) (a' := ?_) #[true, true, true, false, false, false, false, false, false, false, false, false, false, false, false, false, false, false, false, false, false, false, false, false, false, false, false] rfl rfl (by kernel_rfl) (fun _ _ _ h => h) (Or.inl ⟨by rfl, ?_⟩) ?_ ?_
        rotate_left
        · intro w'
          go_simp
          with_reducible rfl
        rotate_left
        · simp only [Act.put, List.setIfInBounds_toArray, List.set_cons_zero, List.set_cons_succ, i64_w, i32_w]
          rfl
        refine pure_ (i := 3) (N := some 21) (v := ?_) (a' := ?_) #[true, true, true, true, false, false, false, false, false, false, false, false, false, false, false, false, false, false, false, false, false, false, false, false, false, false, false] rfl rfl (by kernel_rfl) (fun _ _ _ h => h) (Or.inl ⟨by rfl, ?_⟩) ?_ ?_
        rotate_left
        · intro w'
          go_simp
          with_reducible rfl
        rotate_left
        · simp only [Act.put, List.setIfInBounds_toArray, List.set_cons_zero, List.set_cons_succ, i64_w, i32_w]
          rfl
        refine pure_ (i := 6) (N := some 24) (v := ?_) (a' := ?_) #[true, true, true, true, false, false, true, false, false, false, false, false, false, false, false, false, false, false, false, false, false, false, false, false, false, false, false] rfl rfl (by kernel_rfl) (fun _ _ _ h => h) (Or.inl ⟨by rfl, ?_⟩) ?_ ?_
        rotate_left
        · intro w'
          go_simp
          with_reducible rfl
        rotate_left
        · simp only [Act.put, List.setIfInBounds_toArray, List.set_cons_zero, List.set_cons_succ, i64_w, i32_w]
          rfl
        refine pure_ (i := 7) (N := some 25) (v := ?_) (a' := ?_) #[true, true, true, true, false, false, true, true, false, false, false, false, false, false, false, false, false, false, false, false, false, false, false, false, false, false, false] rfl rfl (by kernel_rfl) (fun _ _ _ h => h) (Or.inl ⟨by rfl, ?_⟩) ?_ ?_
        rotate_left
        · intro w'
          go_simp
          with_reducible rfl
        rotate_left
        · simp only [Act.put, List.setIfInBounds_toArray, List.set_cons_zero, List.set_cons_succ, i64_w, i32_w]
          rfl
        refine pure_ (i := 9) (N := some 27) (v := ?_) (a' := ?_) #[true, true, true, true, false, false, true, true, false, true, false, false, false, false, false, false, false, false, false, false, false, false, false, false, false, false, false] rfl rfl (by kernel_rfl) (fun _ _ _ h => h) (Or.inl ⟨by rfl, ?_⟩) ?_ ?_
        rotate_left
        · intro w'
          go_simp
          with_reducible rfl
        rotate_left
        · simp only [Act.put, List.setIfInBounds_toArray, List.set_cons_zero, List.set_cons_succ, i64_w, i32_w]
          rfl
        refine take_ (i := 4) (N := some 22) (v := ?_) (a' := ?_) #[true, true, true, true, true, false, true, true, false, true, false, false, false, false, false, false, false, false, false, false, false, false, false, false, false, false, false] rfl rfl (by kernel_rfl) (fun _ _ _ h => h) (Or.inl ⟨by rfl, ?_⟩) hHeld ?_ ?_
        rotate_left
        · rintro w' ⟨s0, s1, s2, s3, s4, s5⟩
          go_simp
          with_reducible rfl
        rotate_left
        · simp only [Act.put, List.setIfInBounds_toArray, List.set_cons_zero, List.set_cons_succ, i64_w, i32_w]
          rfl
        refine take_ (i := 10) (N := some 28) (v := ?_) (a' := ?_) #[true, true, true, true, true, false, true, true, false, true, true, false, false, false, false, false, false, false, false, false, false, false, false, false, false, false, false] rfl rfl (by kernel_rfl) (fun _ _ _ h => h) (Or.inl ⟨by rfl, ?_⟩) hHeld ?_ ?_
        rotate_left
        · rintro w' ⟨s0, s1, s2, s3, s4, s5⟩
          go_simp
          with_reducible rfl
        rotate_left
        · simp only [Act.put, List.setIfInBounds_toArray, List.set_cons_zero, List.set_cons_succ, i64_w, i32_w]
          rfl
        refine one_ (i := 5) (N := some 23) #[true, true, true, true, true, true, true, true, false, true, true, false, false, false, false, false, false, false, false, false, false, false, false, false, false, false, false] rfl rfl (by kernel_rfl) (by decide) (fun K hK => ?_)
        refine goes_ Tryz.func74 (by kernel_rfl) rfl #[.agg #[.slice ao fm cap, .int .i64 (d.room : Int), .bool d.fuse.isSome, .int .i64 left, .bool d.dead]] (by rfl) rfl rfl (by simp only [List.map_toArray, List.map_cons, List.map_nil]; rfl) ?_
        with_reducible refine (hused _ hHeld.2.2.2.2.2).mono ?_
        rintro e w6 ⟨rfl, hk6⟩
        refine ⟨_, rfl, ?_⟩
        refine hK.out _ _ ⟨((hk6.cell (p := ⟨w.heap.size, 0, none⟩) (Nat.lt_of_lt_of_le hbz hHeld.2.2.2.2.2.size) (by simp)).trans hHeld.1), ((hk6.cell (p := ⟨w.heap.size, 1, none⟩) (Nat.lt_of_lt_of_le hbz hHeld.2.2.2.2.2.size) (by simp)).trans hHeld.2.1), ((hk6.cell (p := ⟨w.heap.size, 2, none⟩) (Nat.lt_of_lt_of_le hbz hHeld.2.2.2.2.2.size) (by simp)).trans hHeld.2.2.1), ((hk6.cell (p := ⟨w.heap.size, 3, none⟩) (Nat.lt_of_lt_of_le hbz hHeld.2.2.2.2.2.size) (by simp)).trans hHeld.2.2.2.1), ((hk6.cell (p := ⟨w.heap.size, 4, none⟩) (Nat.lt_of_lt_of_le hbz hHeld.2.2.2.2.2.size) (by simp)).trans hHeld.2.2.2.2.1), (hHeld.2.2.2.2.2.trans (hk6.mono (by simp) hHeld.2.2.2.2.2.size))⟩ (fun hHeld => ?_)
        clear hK K
        refine norm_ (a' := ?_) ?_ ?_
        rotate_left
        · show Act.put _ (some 23) _ = _
          simp only [Act.put, List.setIfInBounds_toArray, List.set_cons_zero, List.set_cons_succ, i64_w, i32_w]
          rfl
        refine pure_ (i := 8) (N := some 26) (v := ?_) (a' := ?_) #[true, true, true, true, true, true, true, true, true, true, true, false, false, false, false, false, false, false, false, false, false, false, false, false, false, false, false] rfl rfl (by kernel_rfl) (fun _ _ _ h => h) (Or.inl ⟨by rfl, ?_⟩) ?_ ?_
        rotate_left
        · intro w'
          go_simp
          with_reducible rfl
        rotate_left
        · simp only [Act.put, List.setIfInBounds_toArray, List.set_cons_zero, List.set_cons_succ, i64_w, i32_w]
          rfl
        refine pure_ (i := 11) (N := some 29) (v := ?_) (a' := ?_) #[true, true, true, true, true, true, true, true, true, true, true, true, false, false, false, false, false, false, false, false, false, false, false, false, false, false, false] rfl rfl (by kernel_rfl) (fun _ _ _ h => h) (Or.inl ⟨by rfl, ?_⟩) ?_ ?_
        rotate_left
        · intro w'
          go_simp
          with_reducible rfl
        rotate_left
        · simp only [Act.put, List.setIfInBounds_toArray, List.set_cons_zero, List.set_cons_succ, i64_w, i32_w]
          rfl
        refine pure_ (i := 12) (N := some 30) (v := ?_) (a' := ?_) #[true, true, true, true, true, true, true, true, true, true, true, true, true, false, false, false, false, false, false, false, false, false, false, false, false, false, false] rfl rfl (by kernel_rfl) (fun _ _ _ h => h) (Or.inl ⟨by rfl, ?_⟩) ?_ ?_
        rotate_left
        · intro w'
          go_simp
          with_reducible rfl
        rotate_left
        · simp only [Act.put, List.setIfInBounds_toArray, List.set_cons_zero, List.set_cons_succ, i64_w, i32_w]
          rfl
        refine pure_ (i := 13) (N := some 31) (v := ?_) (a' := ?_) #[true, true, true, true, true, true, true, true, true, true, true, true, true, true, false, false, false, false, false, false, false, false, false, false, false, false, false] rfl rfl (by kernel_rfl) (fun _ _ _ h => h) (Or.inl ⟨by rfl, ?_⟩) ?_ ?_
        rotate_left
        · intro w'
          go_simp
          with_reducible rfl
        rotate_left
        · simp only [Act.put, List.setIfInBounds_toArray, List.set_cons_zero, List.set_cons_succ, i64_w, i32_w]
          rfl
        refine pure_ (i := 14) (N := some 32) (v := undef) (a' := ?_) #[true, true, true, true, true, true, true, true, true, true, true, true, true, true, true, false, false, false, false, false, false, false, false, false, false, false, false] rfl rfl (by kernel_rfl) (fun _ _ _ h => h) (Or.inr ⟨by rfl, rfl⟩) ?_ ?_
        rotate_left
        · simp only [Act.put, List.setIfInBounds_toArray, List.set_cons_zero, List.set_cons_succ, i64_w, i32_w]
          rfl
        refine pure_ (i := 15) (N := some 33) (v := undef) (a' := ?_) #[true, true, true, true, true, true, true, true, true, true, true, true, true, true, true, true, false, false, false, false, false, false, false, false, false, false, false] rfl rfl (by kernel_rfl) (fun _ _ _ h => h) (Or.inr ⟨by rfl, rfl⟩) ?_ ?_
        rotate_left
        · simp only [Act.put, List.setIfInBounds_toArray, List.set_cons_zero, List.set_cons_succ, i64_w, i32_w]
          rfl
        refine pure_ (i := 16) (N := some 34) (v := undef) (a' := ?_) #[true, true, true, true, true, true, true, true, true, true, true, true, true, true, true, true, true, false, false, false, false, false, false, false, false, false, false] rfl rfl (by kernel_rfl) (fun _ _ _ h => h) (Or.inr ⟨by rfl, rfl⟩) ?_ ?_
        rotate_left
        · simp only [Act.put, List.setIfInBounds_toArray, List.set_cons_zero, List.set_cons_succ, i64_w, i32_w]
          rfl
        refine pure_ (i := 17) (N := some 35) (v := undef) (a' := ?_) #[true, true, true, true, true, true, true, true, true, true, true, true, true, true, true, true, true, true, false, false, false, false, false, false, false, false, false] rfl rfl (by kernel_rfl) (fun _ _ _ h => h) (Or.inr ⟨by rfl, rfl⟩) ?_ ?_
        rotate_left
        · simp only [Act.put, List.setIfInBounds_toArray, List.set_cons_zero, List.set_cons_succ, i64_w, i32_w]
          rfl
        refine pure_ (i := 18) (N := some 36) (v := undef) (a' := ?_) #[true, true, true, true, true, true, true, true, true, true, true, true, true, true, true, true, true, true, true, false, false, false, false, false, false, false, false] rfl rfl (by kernel_rfl) (fun _ _ _ h => h) (Or.inr ⟨by rfl, rfl⟩) ?_ ?_
        rotate_left
        · simp only [Act.put, List.setIfInBounds_toArray, List.set_cons_zero, List.set_cons_succ, i64_w, i32_w]
          rfl
        refine pure_ (i := 19) (N := some 37) (v := undef) (a' := ?_) #[true, true, true, true, true, true, true, true, true, true, true, true, true, true, true, true, true, true, true, true, false, false, false, false, false, false, false] rfl rfl (by kernel_rfl) (fun _ _ _ h => h) (Or.inr ⟨by rfl, rfl⟩) ?_ ?_
        rotate_left
        · simp only [Act.put, List.setIfInBounds_toArray, List.set_cons_zero, List.set_cons_succ, i64_w, i32_w]
          rfl
        refine pure_ (i := 20) (N := some 38) (v := undef) (a' := ?_) #[true, true, true, true, true, true, true, true, true, true, true, true, true, true, true, true, true, true, true, true, true, false, false, false, false, false, false] rfl rfl (by kernel_rfl) (fun _ _ _ h => h) (Or.inr ⟨by rfl, rfl⟩) ?_ ?_
        rotate_left
        · simp only [Act.put, List.setIfInBounds_toArray, List.set_cons_zero, List.set_cons_succ, i64_w, i32_w]
          rfl
        refine pure_ (i := 21) (N := some 39) (v := undef) (a' := ?_) #[true, true, true, true, true, true, true, true, true, true, true, true, true, true, true, true, true, true, true, true, true, true, false, false, false, false, false] rfl rfl (by kernel_rfl) (fun _ _ _ h => h) (Or.inr ⟨by rfl, rfl⟩) ?_ ?_
        rotate_left
        · simp only [Act.put, List.setIfInBounds_toArray, List.set_cons_zero, List.set_cons_succ, i64_w, i32_w]
          rfl
        refine pure_ (i := 22) (N := some 40) (v := ?_) (a' := ?_) #[true, true, true, true, true, true, true, true, true, true, true, true, true, true, true, true, true, true, true, true, true, true, true, false, false, false, false] rfl rfl (by kernel_rfl) (fun _ _ _ h => h) (Or.inl ⟨by rfl, ?_⟩) ?_ ?_
        rotate_left
        · intro w'
          go_simp
          with_reducible rfl
        rotate_left
        · simp only [Act.put, List.setIfInBounds_toArray, List.set_cons_zero, List.set_cons_succ, i64_w, i32_w]
          rfl
        refine pure_ (i := 23) (N := some 41) (v := ?_) (a' := ?_) #[true, true, true, true, true, true, true, true, true, true, true, true, true, true, true, true, true, true, true, true, true, true, true, true, false, false, false] rfl rfl (by kernel_rfl) (fun _ _ _ h => h) (Or.inl ⟨by rfl, ?_⟩) ?_ ?_
        rotate_left
        · intro w'
          go_simp
          with_reducible rfl
        rotate_left
        · simp only [Act.put, List.setIfInBounds_toArray, List.set_cons_zero, List.set_cons_succ, i64_w, i32_w]
          rfl
        refine pure_ (i := 24) (N := some 42) (v := undef) (a' := ?_) #[true, true, true, true, true, true, true, true, true, true, true, true, true, true, true, true, true, true, true, true, true, true, true, true, true, false, false] rfl rfl (by kernel_rfl) (fun _ _ _ h => h) (Or.inr ⟨by rfl, rfl⟩) ?_ ?_
        rotate_left
        · simp only [Act.put, List.setIfInBounds_toArray, List.set_cons_zero, List.set_cons_succ, i64_w, i32_w]
          rfl
        refine pure_ (i := 25) (N := some 43) (v := undef) (a' := ?_) #[true, true, true, true, true, true, true, true, true, true, true, true, true, true, true, true, true, true, true, true, true, true, true, true, true, true, false] rfl rfl (by kernel_rfl) (fun _ _ _ h => h) (Or.inr ⟨by rfl, rfl⟩) ?_ ?_
        rotate_left
        · simp only [Act.put, List.setIfInBounds_toArray, List.set_cons_zero, List.set_cons_succ, i64_w, i32_w]
          rfl
        refine pure_ (i := 26) (N := some 44) (v := ?_) (a' := ?_) #[true, true, true, true, true, true, true, true, true, true, true, true, true, true, true, true, true, true, true, true, true, true, true, true, true, true, true] rfl rfl (by kernel_rfl) (fun _ _ _ h => h) (Or.inl ⟨by rfl, ?_⟩) ?_ ?_
        rotate_left
        · intro w'
          go_simp
          with_reducible rfl
        rotate_left
        · simp only [Act.put, List.setIfInBounds_toArray, List.set_cons_zero, List.set_cons_succ, i64_w, i32_w]
          rfl
        refine done_ (by kernel_rfl) ?_

        go_wp2
        go_meet
        exact ⟨rfl, hkz.trans (hk6.mono (by simp) hkz.size)⟩
      · have dr : decide ((d.room : Int) < (U : Int) + (m : Int)) = false := decide_eq_false (by clear hw64; omega)
        have hRo : decide (d.room < U + m) = false := decide_eq_false hro
        rcases findI_look (d := d) (s := s) with ⟨hlk, hfi⟩ | ⟨j, hj, hfi, hlk⟩
        · rw [← HI.out] at hfi
          subst hfi
          have hth : d.there s = false := by unfold Dk.there; rw [hlk]; rfl
          by_cases h8 : 8 ≤ fm
          · have d8 : decide ((8 : Int) ≤ (fm : Int)) = true := decide_eq_true (by omega)
            have hR : R = true := by have := refuses_eq (c := true) HU.out HR.out hn hRo (by rw [hth, ← HM.out]; simpa using h8) rfl; rw [this]; simp
            subst hR
            refine start_ (n := 27) (S := fun w' => w'.cell? ⟨w.heap.size, 0, none⟩ = some (.slice ao fm cap) ∧ w'.cell? ⟨w.heap.size, 1, none⟩ = some (.int .i64 (d.room : Int)) ∧ w'.cell? ⟨w.heap.size, 2, none⟩ = some (.bool d.fuse.isSome) ∧ w'.cell? ⟨w.heap.size, 3, none⟩ = some (.int .i64 left) ∧ w'.cell? ⟨w.heap.size, 4, none⟩ = some (.bool d.dead) ∧ Kp [] w3.heap.size w3 w') (ds := []) #[false, false, false, false, false, false, false, false, false, false, false, false, false, false, false, false, false, false, false, false, false, false, false, false, false, false, false] (by kernel_rfl) rfl rfl ⟨(by exact e0), (by exact e1), (by exact e2), (by exact e3), (by exact e4), hkz⟩ (fun hHeld => ?_)
            refine pure_ (i := 0) (N := some 18) (v := ?_) (a' := ?_) #[true, false, false, false, false, false, false, false, false, false, false, false, false, false, false, false, false, false, false, false, false, false, false, false, false, false, false] rfl rfl (by kernel_rfl) (fun _ _ _ h => h) (Or.inl ⟨by rfl, ?_⟩) ?_ ?_
            rotate_left
            · intro w'
              go_simp
              with_reducible rfl
            rotate_left
            · simp only [Act.put, List.setIfInBounds_toArray, List.set_cons_zero, List.set_cons_succ, i64_w, i32_w]
              rfl
            refine one_ (i := 1) (N := some 19) #[true, true, false, false, false, false, false, false, false, false, false, false, false, false, false, false, false, false, false, false, false, false, false, false, false, false, false] rfl rfl (by kernel_rfl) (by decide) (fun K hK => ?_)
            refine goes_ Tryz.func73 (by kernel_rfl) rfl #[.string ⟨s.toArray⟩] (by rfl) rfl rfl (by simp only [List.map_toArray, List.map_cons, List.map_nil]; rfl) ?_
            with_reducible refine (hnmd _).mono ?_
            rintro e w5 ⟨rfl, rfl⟩
            refine ⟨_, rfl, ?_⟩
            refine hK.out _ _ ⟨(by exact hHeld.1), (by exact hHeld.2.1), (by exact hHeld.2.2.1), (by exact hHeld.2.2.2.1), (by exact hHeld.2.2.2.2.1), (by exact hHeld.2.2.2.2.2)⟩ (fun hHeld => ?_)
            clear hK K
            refine norm_ (a' := ?_) ?_ ?_
            rotate_left
            · show Act.put _ (some 19) _ = _
              simp only [Act.put, List.setIfInBounds_toArray, List.set_cons_zero, List.set_cons_succ, i64_w, i32_w]
              rfl
            refine pure_ (i := 2) (N := some 20) (v := ?_) (a' := ?_) #[true, true, true, false, false, false, false, false, false, false, false, false, false, false, false, false, false, false, false, false, false, false, false, false, false, false, false] rfl rfl (by kernel_rfl) (fun _ _ _ h => h) (Or.inl ⟨by rfl, ?_⟩) ?_ ?_
            rotate_left
            · intro w'
              go_simp
              with_reducible rfl
            rotate_left
            · simp only [Act.put, List.setIfInBounds_toArray, List.set_cons_zero, List.set_cons_succ, i64_w, i32_w]
              rfl
            refine pure_ (i := 3) (N := some 21) (v := ?_) (a' := ?_) #[true, true, true, true, false, false, false, false, false, false, false, false, false, false, false, false, false, false, false, false, false, false, false, false, false, false, false] rfl rfl (by kernel_rfl) (fun _ _ _ h => h) (Or.inl ⟨by rfl, ?_⟩) ?_ ?_
            rotate_left
            · intro w'
              go_simp
              with_reducible rfl
            rotate_left
            · simp only [Act.put, List.setIfInBounds_toArray, List.set_cons_zero, List.set_cons_succ, i64_w, i32_w]
              rfl
            refine pure_ (i := 6) (N := some 24) (v := ?_) (a' := ?_) #[true, true, true, true, false, false, true, false, false, false, false, false, false, false, false, false, false, false, false, false, false, false, false, false, false, false, false] rfl rfl (by kernel_rfl) (fun _ _ _ h => h) (Or.inl ⟨by rfl, ?_⟩) ?_ ?_
            rotate_left
            · intro w'
              go_simp
              with_reducible rfl
            rotate_left
            · simp only [Act.put, List.setIfInBounds_toArray, List.set_cons_zero, List.set_cons_succ, i64_w, i32_w]
              rfl
            refine pure_ (i := 7) (N := some 25) (v := ?_) (a' := ?_) #[true, true, true, true, false, false, true, true, false, false, false, false, false, false, false, false, false, false, false, false, false, false, false, false, false, false, false] rfl rfl (by kernel_rfl) (fun _ _ _ h => h) (Or.inl ⟨by rfl, ?_⟩) ?_ ?_
            rotate_left
            · intro w'
              go_simp
              with_reducible rfl
            rotate_left
            · simp only [Act.put, List.setIfInBounds_toArray, List.set_cons_zero, List.set_cons_succ, i64_w, i32_w]
              rfl
            refine pure_ (i := 9) (N := some 27) (v := ?_) (a' := ?_) #[true, true, true, true, false, false, true, true, false, true, false, false, false, false, false, false, false, false, false, false, false, false, false, false, false, false, false] rfl rfl (by kernel_rfl) (fun _ _ _ h => h) (Or.inl ⟨by rfl, ?_⟩) ?_ ?_
            rotate_left
            · intro w'
              go_simp
              with_reducible rfl
            rotate_left
            · simp only [Act.put, List.setIfInBounds_toArray, List.set_cons_zero, List.set_cons_succ, i64_w, i32_w]
              rfl
            refine take_ (i := 4) (N := some 22) (v := ?_) (a' := ?_) #[true, true, true, true, true, false, true, true, false, true, false, false, false, false, false, false, false, false, false, false, false, false, false, false, false, false, false] rfl rfl (by kernel_rfl) (fun _ _ _ h => h) (Or.inl ⟨by rfl, ?_⟩) hHeld ?_ ?_
            rotate_left
            · rintro w' ⟨s0, s1, s2, s3, s4, s5⟩
              go_simp
              with_reducible rfl
            rotate_left
            · simp only [Act.put, List.setIfInBounds_toArray, List.set_cons_zero, List.set_cons_succ, i64_w, i32_w]
              rfl
            refine take_ (i := 10) (N := some 28) (v := ?_) (a' := ?_) #[true, true, true, true, true, false, true, true, false, true, true, false, false, false, false, false, false, false, false, false, false, false, false, false, false, false, false] rfl rfl (by kernel_rfl) (fun _ _ _ h => h) (Or.inl ⟨by rfl, ?_⟩) hHeld ?_ ?_
            rotate_left
            · rintro w' ⟨s0, s1, s2, s3, s4, s5⟩
              go_simp
              with_reducible rfl
            rotate_left
            · simp only [Act.put, List.setIfInBounds_toArray, List.set_cons_zero, List.set_cons_succ, i64_w, i32_w]
              rfl
            refine one_ (i := 5) (N := some 23) #[true, true, true, true, true, true, true, true, false, true, true, false, false, false, false, false, false, false, false, false, false, false, false, false, false, false, false] rfl rfl (by kernel_rfl) (by decide) (fun K hK => ?_)
            refine goes_ Tryz.func74 (by kernel_rfl) rfl #[.agg #[.slice ao fm cap, .int .i64 (d.room : Int), .bool d.fuse.isSome, .int .i64 left, .bool d.dead]] (by rfl) rfl rfl (by simp only [List.map_toArray, List.map_cons, List.map_nil]; rfl) ?_
            with_reducible refine (hused _ hHeld.2.2.2.2.2).mono ?_
            rintro e w6 ⟨rfl, hk6⟩
            refine ⟨_, rfl, ?_⟩
            refine hK.out _ _ ⟨((hk6.cell (p := ⟨w.heap.size, 0, none⟩) (Nat.lt_of_lt_of_le hbz hHeld.2.2.2.2.2.size) (by simp)).trans hHeld.1), ((hk6.cell (p := ⟨w.heap.size, 1, none⟩) (Nat.lt_of_lt_of_le hbz hHeld.2.2.2.2.2.size) (by simp)).trans hHeld.2.1), ((hk6.cell (p := ⟨w.heap.size, 2, none⟩) (Nat.lt_of_lt_of_le hbz hHeld.2.2.2.2.2.size) (by simp)).trans hHeld.2.2.1), ((hk6.cell (p := ⟨w.heap.size, 3, none⟩) (Nat.lt_of_lt_of_le hbz hHeld.2.2.2.2.2.size) (by simp)).trans hHeld.2.2.2.1), ((hk6.cell (p := ⟨w.heap.size, 4, none⟩) (Nat.lt_of_lt_of_le hbz hHeld.2.2.2.2.2.size) (by simp)).trans hHeld.2.2.2.2.1), (hHeld.2.2.2.2.2.trans (hk6.mono (by simp) hHeld.2.2.2.2.2.size))⟩ (fun hHeld => ?_)
            clear hK K
            refine norm_ (a' := ?_) ?_ ?_
            rotate_left
            · show Act.put _ (some 23) _ = _
              simp only [Act.put, List.setIfInBounds_toArray, List.set_cons_zero, List.set_cons_succ, i64_w, i32_w]
              rfl
            refine pure_ (i := 8) (N := some 26) (v := ?_) (a' := ?_) #[true, true, true, true, true, true, true, true, true, true, true, false, false, false, false, false, false, false, false, false, false, false, false, false, false, false, false] rfl rfl (by kernel_rfl) (fun _ _ _ h => h) (Or.inl ⟨by rfl, ?_⟩) ?_ ?_
            rotate_left
            · intro w'
              go_simp
              with_reducible rfl
            rotate_left
            · simp only [Act.put, List.setIfInBounds_toArray, List.set_cons_zero, List.set_cons_succ, i64_w, i32_w]
              rfl
            refine pure_ (i := 11) (N := some 29) (v := ?_) (a' := ?_) #[true, true, true, true, true, true, true, true, true, true, true, true, false, false, false, false, false, false, false, false, false, false, false, false, false, false, false] rfl rfl (by kernel_rfl) (fun _ _ _ h => h) (Or.inl ⟨by rfl, ?_⟩) ?_ ?_
            rotate_left
            · intro w'
              go_simp
              with_reducible rfl
            rotate_left
            · simp only [Act.put, List.setIfInBounds_toArray, List.set_cons_zero, List.set_cons_succ, i64_w, i32_w]
              rfl
            refine pure_ (i := 12) (N := some 30) (v := ?_) (a' := ?_) #[true, true, true, true, true, true, true, true, true, true, true, true, true, false, false, false, false, false, false, false, false, false, false, false, false, false, false] rfl rfl (by kernel_rfl) (fun _ _ _ h => h) (Or.inl ⟨by rfl, ?_⟩) ?_ ?_
            rotate_left
            · intro w'
              go_simp
              with_reducible rfl
            rotate_left
            · simp only [Act.put, List.setIfInBounds_toArray, List.set_cons_zero, List.set_cons_succ, i64_w, i32_w]
              rfl
            refine pure_ (i := 13) (N := some 31) (v := ?_) (a' := ?_) #[true, true, true, true, true, true, true, true, true, true, true, true, true, true, false, false, false, false, false, false, false, false, false, false, false, false, false] rfl rfl (by kernel_rfl) (fun _ _ _ h => h) (Or.inl ⟨by rfl, ?_⟩) ?_ ?_
            rotate_left
            · intro w'
              go_simp
              with_reducible rfl
            rotate_left
            · simp only [Act.put, List.setIfInBounds_toArray, List.set_cons_zero, List.set_cons_succ, i64_w, i32_w]
              rfl
            refine pure_ (i := 14) (N := some 32) (v := ?_) (a' := ?_) #[true, true, true, true, true, true, true, true, true, true, true, true, true, true, true, false, false, false, false, false, false, false, false, false, false, false, false] rfl rfl (by kernel_rfl) (fun _ _ _ h => h) (Or.inl ⟨by rfl, ?_⟩) ?_ ?_
            rotate_left
            · intro w'
              go_simp
              with_reducible rfl
            rotate_left
            · simp only [Act.put, List.setIfInBounds_toArray, List.set_cons_zero, List.set_cons_succ, i64_w, i32_w]
              rfl
            refine pure_ (i := 15) (N := some 33) (v := ?_) (a' := ?_) #[true, true, true, true, true, true, true, true, true, true, true, true, true, true, true, true, false, false, false, false, false, false, false, false, false, false, false] rfl rfl (by kernel_rfl) (fun _ _ _ h => h) (Or.inl ⟨by rfl, ?_⟩) ?_ ?_
            rotate_left
            · intro w'
              go_simp
              with_reducible rfl
            rotate_left
            · simp only [Act.put, List.setIfInBounds_toArray, List.set_cons_zero, List.set_cons_succ, i64_w, i32_w]
              rfl
            refine pure_ (i := 16) (N := some 34) (v := ?_) (a' := ?_) #[true, true, true, true, true, true, true, true, true, true, true, true, true, true, true, true, true, false, false, false, false, false, false, false, false, false, false] rfl rfl (by kernel_rfl) (fun _ _ _ h => h) (Or.inl ⟨by rfl, ?_⟩) ?_ ?_
            rotate_left
            · intro w'
              go_simp
              with_reducible rfl
            rotate_left
            · simp only [Act.put, List.setIfInBounds_toArray, List.set_cons_zero, List.set_cons_succ, i64_w, i32_w]
              rfl
            refine pure_ (i := 17) (N := some 35) (v := ?_) (a' := ?_) #[true, true, true, true, true, true, true, true, true, true, true, true, true, true, true, true, true, true, false, false, false, false, false, false, false, false, false] rfl rfl (by kernel_rfl) (fun _ _ _ h => h) (Or.inl ⟨by rfl, ?_⟩) ?_ ?_
            rotate_left
            · intro w'
              go_simp
              with_reducible rfl
            rotate_left
            · simp only [Act.put, List.setIfInBounds_toArray, List.set_cons_zero, List.set_cons_succ, i64_w, i32_w]
              rfl
            refine take_ (i := 18) (N := some 36) (v := ?_) (a' := ?_) #[true, true, true, true, true, true, true, true, true, true, true, true, true, true, true, true, true, true, true, false, false, false, false, false, false, false, false] rfl rfl (by kernel_rfl) (fun _ _ _ h => h) (Or.inl ⟨by rfl, ?_⟩) hHeld ?_ ?_
            rotate_left
            · rintro w' ⟨s0, s1, s2, s3, s4, s5⟩
              go_simp
              with_reducible rfl
            rotate_left
            · simp only [Act.put, List.setIfInBounds_toArray, List.set_cons_zero, List.set_cons_succ, i64_w, i32_w]
              rfl
            refine pure_ (i := 19) (N := some 37) (v := ?_) (a' := ?_) #[true, true, true, true, true, true, true, true, true, true, true, true, true, true, true, true, true, true, true, true, false, false, false, false, false, false, false] rfl rfl (by kernel_rfl) (fun _ _ _ h => h) (Or.inl ⟨by rfl, ?_⟩) ?_ ?_
            rotate_left
            · intro w'
              go_simp
              with_reducible rfl
            rotate_left
            · simp only [Act.put, List.setIfInBounds_toArray, List.set_cons_zero, List.set_cons_succ, i64_w, i32_w]
              rfl
            refine pure_ (i := 20) (N := some 38) (v := ?_) (a' := ?_) #[true, true, true, true, true, true, true, true, true, true, true, true, true, true, true, true, true, true, true, true, true, false, false, false, false, false, false] rfl rfl (by kernel_rfl) (fun _ _ _ h => h) (Or.inl ⟨by rfl, ?_⟩) ?_ ?_
            rotate_left
            · intro w'
              go_simp
              with_reducible rfl
            rotate_left
            · simp only [Act.put, List.setIfInBounds_toArray, List.set_cons_zero, List.set_cons_succ, i64_w, i32_w]
              rfl
            refine pure_ (i := 21) (N := some 39) (v := ?_) (a' := ?_) #[true, true, true, true, true, true, true, true, true, true, true, true, true, true, true, true, true, true, true, true, true, true, false, false, false, false, false] rfl rfl (by kernel_rfl) (fun _ _ _ h => h) (Or.inl ⟨by rfl, ?_⟩) ?_ ?_
            rotate_left
            · intro w'
              go_simp
              with_reducible rfl
            rotate_left
            · simp only [Act.put, List.setIfInBounds_toArray, List.set_cons_zero, List.set_cons_succ, i64_w, i32_w]
              rfl
            refine pure_ (i := 22) (N := some 40) (v := ?_) (a' := ?_) #[true, true, true, true, true, true, true, true, true, true, true, true, true, true, true, true, true, true, true, true, true, true, true, false, false, false, false] rfl rfl (by kernel_rfl) (fun _ _ _ h => h) (Or.inl ⟨by rfl, ?_⟩) ?_ ?_
            rotate_left
            · intro w'
              go_simp
              with_reducible rfl
            rotate_left
            · simp only [Act.put, List.setIfInBounds_toArray, List.set_cons_zero, List.set_cons_succ, i64_w, i32_w]
              rfl
            refine pure_ (i := 23) (N := some 41) (v := ?_) (a' := ?_) #[true, true, true, true, true, true, true, true, true, true, true, true, true, true, true, true, true, true, true, true, true, true, true, true, false, false, false] rfl rfl (by kernel_rfl) (fun _ _ _ h => h) (Or.inl ⟨by rfl, ?_⟩) ?_ ?_
            rotate_left
            · intro w'
              go_simp
              with_reducible rfl
            rotate_left
            · simp only [Act.put, List.setIfInBounds_toArray, List.set_cons_zero, List.set_cons_succ, i64_w, i32_w]
              rfl
            refine pure_ (i := 24) (N := some 42) (v := undef) (a' := ?_) #[true, true, true, true, true, true, true, true, true, true, true, true, true, true, true, true, true, true, true, true, true, true, true, true, true, false, false] rfl rfl (by kernel_rfl) (fun _ _ _ h => h) (Or.inr ⟨by rfl, rfl⟩) ?_ ?_
            rotate_left
            · simp only [Act.put, List.setIfInBounds_toArray, List.set_cons_zero, List.set_cons_succ, i64_w, i32_w]
              rfl
            refine pure_ (i := 25) (N := some 43) (v := undef) (a' := ?_) #[true, true, true, true, true, true, true, true, true, true, true, true, true, true, true, true, true, true, true, true, true, true, true, true, true, true, false] rfl rfl (by kernel_rfl) (fun _ _ _ h => h) (Or.inr ⟨by rfl, rfl⟩) ?_ ?_
            rotate_left
            · simp only [Act.put, List.setIfInBounds_toArray, List.set_cons_zero, List.set_cons_succ, i64_w, i32_w]
              rfl
            refine pure_ (i := 26) (N := some 44) (v := ?_) (a' := ?_) #[true, true, true, true, true, true, true, true, true, true, true, true, true, true, true, true, true, true, true, true, true, true, true, true, true, true, true] rfl rfl (by kernel_rfl) (fun _ _ _ h => h) (Or.inl ⟨by rfl, ?_⟩) ?_ ?_
            rotate_left
            · intro w'
              go_simp
              with_reducible rfl
            rotate_left
            · simp only [Act.put, List.setIfInBounds_toArray, List.set_cons_zero, List.set_cons_succ, i64_w, i32_w]
              rfl
            refine done_ (by kernel_rfl) ?_

            go_wp2
            go_meet
            exact ⟨rfl, hkz.trans (hk6.mono (by simp) hkz.size)⟩
          · have d8 : decide ((8 : Int) ≤ (fm : Int)) = false := decide_eq_false (by omega)
            have hR : R = d.dead := by have := refuses_eq (c := false) HU.out HR.out hn hRo (by rw [hth, ← HM.out]; simpa using h8) rfl; rw [this]; simp
            subst hR
            refine start_ (n := 27) (S := fun w' => w'.cell? ⟨w.heap.size, 0, none⟩ = some (.slice ao fm cap) ∧ w'.cell? ⟨w.heap.size, 1, none⟩ = some (.int .i64 (d.room : Int)) ∧ w'.cell? ⟨w.heap.size, 2, none⟩ = some (.bool d.fuse.isSome) ∧ w'.cell? ⟨w.heap.size, 3, none⟩ = some (.int .i64 left) ∧ w'.cell? ⟨w.heap.size, 4, none⟩ = some (.bool d.dead) ∧ Kp [] w3.heap.size w3 w') (ds := []) #[false, false, false, false, false, false, false, false, false, false, false, false, false, false, false, false, false, false, false, false, false, false, false, false, false, false, false] (by kernel_rfl) rfl rfl ⟨(by exact e0), (by exact e1), (by exact e2), (by exact e3), (by exact e4), hkz⟩ (fun hHeld => ?_)
            refine pure_ (i := 0) (N := some 18) (v := ?_) (a' := ?_) #[true, false, false, false, false, false, false, false, false, false, false, false, false, false, false, false, false, false, false, false, false, false, false, false, false, false, false] rfl rfl (by kernel_rfl) (fun _ _ _ h => h) (Or.inl ⟨by rfl, ?_⟩) ?_ ?_
            rotate_left
            · intro w'
              go_simp
              with_reducible rfl
            rotate_left
            · simp only [Act.put, List.setIfInBounds_toArray, List.set_cons_zero, List.set_cons_succ, i64_w, i32_w]
              rfl
            refine one_ (i := 1) (N := some 19) #[true, true, false, false, false, false, false, false, false, false, false, false, false, false, false, false, false, false, false, false, false, false, false, false, false, false, false] rfl rfl (by kernel_rfl) (by decide) (fun K hK => ?_)
            refine goes_ Tryz.func73 (by kernel_rfl) rfl #[.string ⟨s.toArray⟩] (by rfl) rfl rfl (by simp only [List.map_toArray, List.map_cons, List.map_nil]; rfl) ?_
            with_reducible refine (hnmd _).mono ?_
            rintro e w5 ⟨rfl, rfl⟩
            refine ⟨_, rfl, ?_⟩
            refine hK.out _ _ ⟨(by exact hHeld.1), (by exact hHeld.2.1), (by exact hHeld.2.2.1), (by exact hHeld.2.2.2.1), (by exact hHeld.2.2.2.2.1), (by exact hHeld.2.2.2.2.2)⟩ (fun hHeld => ?_)
            clear hK K
            refine norm_ (a' := ?_) ?_ ?_
            rotate_left
            · show Act.put _ (some 19) _ = _
              simp only [Act.put, List.setIfInBounds_toArray, List.set_cons_zero, List.set_cons_succ, i64_w, i32_w]
              rfl
            refine pure_ (i := 2) (N := some 20) (v := ?_) (a' := ?_) #[true, true, true, false, false, false, false, false, false, false, false, false, false, false, false, false, false, false, false, false, false, false, false, false, false, false, false] rfl rfl (by kernel_rfl) (fun _ _ _ h => h) (Or.inl ⟨by rfl, ?_⟩) ?_ ?_
            rotate_left
            · intro w'
              go_simp
              with_reducible rfl
            rotate_left
            · simp only [Act.put, List.setIfInBounds_toArray, List.set_cons_zero, List.set_cons_succ, i64_w, i32_w]
              rfl
            refine pure_ (i := 3) (N := some 21) (v := ?_) (a' := ?_) #[true, true, true, true, false, false, false, false, false, false, false, false, false, false, false, false, false, false, false, false, false, false, false, false, false, false, false] rfl rfl (by kernel_rfl) (fun _ _ _ h => h) (Or.inl ⟨by rfl, ?_⟩) ?_ ?_
            rotate_left
            · intro w'
              go_simp
              with_reducible rfl
            rotate_left
            · simp only [Act.put, List.setIfInBounds_toArray, List.set_cons_zero, List.set_cons_succ, i64_w, i32_w]
              rfl
            refine pure_ (i := 6) (N := some 24) (v := ?_) (a' := ?_) #[true, true, true, true, false, false, true, false, false, false, false, false, false, false, false, false, false, false, false, false, false, false, false, false, false, false, false] rfl rfl (by kernel_rfl) (fun _ _ _ h => h) (Or.inl ⟨by rfl, ?_⟩) ?_ ?_
            rotate_left
            · intro w'
              go_simp
              with_reducible rfl
            rotate_left
            · simp only [Act.put, List.setIfInBounds_toArray, List.set_cons_zero, List.set_cons_succ, i64_w, i32_w]
              rfl
            refine pure_ (i := 7) (N := some 25) (v := ?_) (a' := ?_) #[true, true, true, true, false, false, true, true, false, false, false, false, false, false, false, false, false, false, false, false, false, false, false, false, false, false, false] rfl rfl (by kernel_rfl) (fun _ _ _ h => h) (Or.inl ⟨by rfl, ?_⟩) ?_ ?_
            rotate_left
            · intro w'
              go_simp
              with_reducible rfl
            rotate_left
            · simp only [Act.put, List.setIfInBounds_toArray, List.set_cons_zero, List.set_cons_succ, i64_w, i32_w]
              rfl
            refine pure_ (i := 9) (N := some 27) (v := ?_) (a' := ?_) #[true, true, true, true, false, false, true, true, false, true, false, false, false, false, false, false, false, false, false, false, false, false, false, false, false, false, false] rfl rfl (by kernel_rfl) (fun _ _ _ h => h) (Or.inl ⟨by rfl, ?_⟩) ?_ ?_
            rotate_left
            · intro w'
              go_simp
              with_reducible rfl
            rotate_left
            · simp only [Act.put, List.setIfInBounds_toArray, List.set_cons_zero, List.set_cons_succ, i64_w, i32_w]
              rfl
            refine take_ (i := 4) (N := some 22) (v := ?_) (a' := ?_) #[true, true, true, true, true, false, true, true, false, true, false, false, false, false, false, false, false, false, false, false, false, false, false, false, false, false, false] rfl rfl (by kernel_rfl) (fun _ _ _ h => h) (Or.inl ⟨by rfl, ?_⟩) hHeld ?_ ?_
            rotate_left
            · rintro w' ⟨s0, s1, s2, s3, s4, s5⟩
              go_simp
              with_reducible rfl
            rotate_left
            · simp only [Act.put, List.setIfInBounds_toArray, List.set_cons_zero, List.set_cons_succ, i64_w, i32_w]
              rfl
            refine take_ (i := 10) (N := some 28) (v := ?_) (a' := ?_) #[true, true, true, true, true, false, true, true, false, true, true, false, false, false, false, false, false, false, false, false, false, false, false, false, false, false, false] rfl rfl (by kernel_rfl) (fun _ _ _ h => h) (Or.inl ⟨by rfl, ?_⟩) hHeld ?_ ?_
            rotate_left
            · rintro w' ⟨s0, s1, s2, s3, s4, s5⟩
              go_simp
              with_reducible rfl
            rotate_left
            · simp only [Act.put, List.setIfInBounds_toArray, List.set_cons_zero, List.set_cons_succ, i64_w, i32_w]
              rfl
            refine one_ (i := 5) (N := some 23) #[true, true, true, true, true, true, true, true, false, true, true, false, false, false, false, false, false, false, false, false, false, false, false, false, false, false, false] rfl rfl (by kernel_rfl) (by decide) (fun K hK => ?_)
            refine goes_ Tryz.func74 (by kernel_rfl) rfl #[.agg #[.slice ao fm cap, .int .i64 (d.room : Int), .bool d.fuse.isSome, .int .i64 left, .bool d.dead]] (by rfl) rfl rfl (by simp only [List.map_toArray, List.map_cons, List.map_nil]; rfl) ?_
            with_reducible refine (hused _ hHeld.2.2.2.2.2).mono ?_
            rintro e w6 ⟨rfl, hk6⟩
            refine ⟨_, rfl, ?_⟩
            refine hK.out _ _ ⟨((hk6.cell (p := ⟨w.heap.size, 0, none⟩) (Nat.lt_of_lt_of_le hbz hHeld.2.2.2.2.2.size) (by simp)).trans hHeld.1), ((hk6.cell (p := ⟨w.heap.size, 1, none⟩) (Nat.lt_of_lt_of_le hbz hHeld.2.2.2.2.2.size) (by simp)).trans hHeld.2.1), ((hk6.cell (p := ⟨w.heap.size, 2, none⟩) (Nat.lt_of_lt_of_le hbz hHeld.2.2.2.2.2.size) (by simp)).trans hHeld.2.2.1), ((hk6.cell (p := ⟨w.heap.size, 3, none⟩) (Nat.lt_of_lt_of_le hbz hHeld.2.2.2.2.2.size) (by simp)).trans hHeld.2.2.2.1), ((hk6.cell (p := ⟨w.heap.size, 4, none⟩) (Nat.lt_of_lt_of_le hbz hHeld.2.2.2.2.2.size) (by simp)).trans hHeld.2.2.2.2.1), (hHeld.2.2.2.2.2.trans (hk6.mono (by simp) hHeld.2.2.2.2.2.size))⟩ (fun hHeld => ?_)
            clear hK K
            refine norm_ (a' := ?_) ?_ ?_
            rotate_left
            · show Act.put _ (some 23) _ = _
              simp only [Act.put, List.setIfInBounds_toArray, List.set_cons_zero, List.set_cons_succ, i64_w, i32_w]
              rfl
            refine pure_ (i := 8) (N := some 26) (v := ?_) (a' := ?_) #[true, true, true, true, true, true, true, true, true, true, true, false, false, false, false, false, false, false, false, false, false, false, false, false, false, false, false] rfl rfl (by kernel_rfl) (fun _ _ _ h => h) (Or.inl ⟨by rfl, ?_⟩) ?_ ?_
            rotate_left
            · intro w'
              go_simp
              with_reducible rfl
            rotate_left
            · simp only [Act.put, List.setIfInBounds_toArray, List.set_cons_zero, List.set_cons_succ, i64_w, i32_w]
              rfl
            refine pure_ (i := 11) (N := some 29) (v := ?_) (a' := ?_) #[true, true, true, true, true, true, true, true, true, true, true, true, false, false, false, false, false, false, false, false, false, false, false, false, false, false, false] rfl rfl (by kernel_rfl) (fun _ _ _ h => h) (Or.inl ⟨by rfl, ?_⟩) ?_ ?_
            rotate_left
            · intro w'
              go_simp
              with_reducible rfl
            rotate_left
            · simp only [Act.put, List.setIfInBounds_toArray, List.set_cons_zero, List.set_cons_succ, i64_w, i32_w]
              rfl
            refine pure_ (i := 12) (N := some 30) (v := ?_) (a' := ?_) #[true, true, true, true, true, true, true, true, true, true, true, true, true, false, false, false, false, false, false, false, false, false, false, false, false, false, false] rfl rfl (by kernel_rfl) (fun _ _ _ h => h) (Or.inl ⟨by rfl, ?_⟩) ?_ ?_
            rotate_left
            · intro w'
              go_simp
              with_reducible rfl
            rotate_left
            · simp only [Act.put, List.setIfInBounds_toArray, List.set_cons_zero, List.set_cons_succ, i64_w, i32_w]
              rfl
            refine pure_ (i := 13) (N := some 31) (v := ?_) (a' := ?_) #[true, true, true, true, true, true, true, true, true, true, true, true, true, true, false, false, false, false, false, false, false, false, false, false, false, false, false] rfl rfl (by kernel_rfl) (fun _ _ _ h => h) (Or.inl ⟨by rfl, ?_⟩) ?_ ?_
            rotate_left
            · intro w'
              go_simp
              with_reducible rfl
            rotate_left
            · simp only [Act.put, List.setIfInBounds_toArray, List.set_cons_zero, List.set_cons_succ, i64_w, i32_w]
              rfl
            refine pure_ (i := 14) (N := some 32) (v := ?_) (a' := ?_) #[true, true, true, true, true, true, true, true, true, true, true, true, true, true, true, false, false, false, false, false, false, false, false, false, false, false, false] rfl rfl (by kernel_rfl) (fun _ _ _ h => h) (Or.inl ⟨by rfl, ?_⟩) ?_ ?_
            rotate_left
            · intro w'
              go_simp
              with_reducible rfl
            rotate_left
            · simp only [Act.put, List.setIfInBounds_toArray, List.set_cons_zero, List.set_cons_succ, i64_w, i32_w]
              rfl
            refine pure_ (i := 15) (N := some 33) (v := ?_) (a' := ?_) #[true, true, true, true, true, true, true, true, true, true, true, true, true, true, true, true, false, false, false, false, false, false, false, false, false, false, false] rfl rfl (by kernel_rfl) (fun _ _ _ h => h) (Or.inl ⟨by rfl, ?_⟩) ?_ ?_
            rotate_left
            · intro w'
              go_simp
              with_reducible rfl
            rotate_left
            · simp only [Act.put, List.setIfInBounds_toArray, List.set_cons_zero, List.set_cons_succ, i64_w, i32_w]
              rfl
            refine pure_ (i := 16) (N := some 34) (v := ?_) (a' := ?_) #[true, true, true, true, true, true, true, true, true, true, true, true, true, true, true, true, true, false, false, false, false, false, false, false, false, false, false] rfl rfl (by kernel_rfl) (fun _ _ _ h => h) (Or.inl ⟨by rfl, ?_⟩) ?_ ?_
            rotate_left
            · intro w'
              go_simp
              with_reducible rfl
            rotate_left
            · simp only [Act.put, List.setIfInBounds_toArray, List.set_cons_zero, List.set_cons_succ, i64_w, i32_w]
              rfl
            refine pure_ (i := 17) (N := some 35) (v := ?_) (a' := ?_) #[true, true, true, true, true, true, true, true, true, true, true, true, true, true, true, true, true, true, false, false, false, false, false, false, false, false, false] rfl rfl (by kernel_rfl) (fun _ _ _ h => h) (Or.inl ⟨by rfl, ?_⟩) ?_ ?_
            rotate_left
            · intro w'
              go_simp
              with_reducible rfl
            rotate_left
            · simp only [Act.put, List.setIfInBounds_toArray, List.set_cons_zero, List.set_cons_succ, i64_w, i32_w]
              rfl
            refine take_ (i := 18) (N := some 36) (v := ?_) (a' := ?_) #[true, true, true, true, true, true, true, true, true, true, true, true, true, true, true, true, true, true, true, false, false, false, false, false, false, false, false] rfl rfl (by kernel_rfl) (fun _ _ _ h => h) (Or.inl ⟨by rfl, ?_⟩) hHeld ?_ ?_
            rotate_left
            · rintro w' ⟨s0, s1, s2, s3, s4, s5⟩
              go_simp
              with_reducible rfl
            rotate_left
            · simp only [Act.put, List.setIfInBounds_toArray, List.set_cons_zero, List.set_cons_succ, i64_w, i32_w]
              rfl
            refine pure_ (i := 19) (N := some 37) (v := ?_) (a' := ?_) #[true, true, true, true, true, true, true, true, true, true, true, true, true, true, true, true, true, true, true, true, false, false, false, false, false, false, false] rfl rfl (by kernel_rfl) (fun _ _ _ h => h) (Or.inl ⟨by rfl, ?_⟩) ?_ ?_
            rotate_left
            · intro w'
              go_simp
              with_reducible rfl
            rotate_left
            · simp only [Act.put, List.setIfInBounds_toArray, List.set_cons_zero, List.set_cons_succ, i64_w, i32_w]
              rfl
            refine pure_ (i := 20) (N := some 38) (v := ?_) (a' := ?_) #[true, true, true, true, true, true, true, true, true, true, true, true, true, true, true, true, true, true, true, true, true, false, false, false, false, false, false] rfl rfl (by kernel_rfl) (fun _ _ _ h => h) (Or.inl ⟨by rfl, ?_⟩) ?_ ?_
            rotate_left
            · intro w'
              go_simp
              with_reducible rfl
            rotate_left
            · simp only [Act.put, List.setIfInBounds_toArray, List.set_cons_zero, List.set_cons_succ, i64_w, i32_w]
              rfl
            refine pure_ (i := 21) (N := some 39) (v := ?_) (a' := ?_) #[true, true, true, true, true, true, true, true, true, true, true, true, true, true, true, true, true, true, true, true, true, true, false, false, false, false, false] rfl rfl (by kernel_rfl) (fun _ _ _ h => h) (Or.inl ⟨by rfl, ?_⟩) ?_ ?_
            rotate_left
            · intro w'
              go_simp
              with_reducible rfl
            rotate_left
            · simp only [Act.put, List.setIfInBounds_toArray, List.set_cons_zero, List.set_cons_succ, i64_w, i32_w]
              rfl
            refine pure_ (i := 22) (N := some 40) (v := ?_) (a' := ?_) #[true, true, true, true, true, true, true, true, true, true, true, true, true, true, true, true, true, true, true, true, true, true, true, false, false, false, false] rfl rfl (by kernel_rfl) (fun _ _ _ h => h) (Or.inl ⟨by rfl, ?_⟩) ?_ ?_
            rotate_left
            · intro w'
              go_simp
              with_reducible rfl
            rotate_left
            · simp only [Act.put, List.setIfInBounds_toArray, List.set_cons_zero, List.set_cons_succ, i64_w, i32_w]
              rfl
            refine pure_ (i := 23) (N := some 41) (v := ?_) (a' := ?_) #[true, true, true, true, true, true, true, true, true, true, true, true, true, true, true, true, true, true, true, true, true, true, true, true, false, false, false] rfl rfl (by kernel_rfl) (fun _ _ _ h => h) (Or.inl ⟨by rfl, ?_⟩) ?_ ?_
            rotate_left
            · intro w'
              go_simp
              with_reducible rfl
            rotate_left
            · simp only [Act.put, List.setIfInBounds_toArray, List.set_cons_zero, List.set_cons_succ, i64_w, i32_w]
              rfl
            refine pure_ (i := 24) (N := some 42) (v := ?_) (a' := ?_) #[true, true, true, true, true, true, true, true, true, true, true, true, true, true, true, true, true, true, true, true, true, true, true, true, true, false, false] rfl rfl (by kernel_rfl) (fun _ _ _ h => h) (Or.inl ⟨by rfl, ?_⟩) ?_ ?_
            rotate_left
            · intro w'
              go_simp
              with_reducible rfl
            rotate_left
            · simp only [Act.put, List.setIfInBounds_toArray, List.set_cons_zero, List.set_cons_succ, i64_w, i32_w]
              rfl
            refine take_ (i := 25) (N := some 43) (v := ?_) (a' := ?_) #[true, true, true, true, true, true, true, true, true, true, true, true, true, true, true, true, true, true, true, true, true, true, true, true, true, true, false] rfl rfl (by kernel_rfl) (fun _ _ _ h => h) (Or.inl ⟨by rfl, ?_⟩) hHeld ?_ ?_
            rotate_left
            · rintro w' ⟨s0, s1, s2, s3, s4, s5⟩
              go_simp
              with_reducible rfl
            rotate_left
            · simp only [Act.put, List.setIfInBounds_toArray, List.set_cons_zero, List.set_cons_succ, i64_w, i32_w]
              rfl
            refine pure_ (i := 26) (N := some 44) (v := ?_) (a' := ?_) #[true, true, true, true, true, true, true, true, true, true, true, true, true, true, true, true, true, true, true, true, true, true, true, true, true, true, true] rfl rfl (by kernel_rfl) (fun _ _ _ h => h) (Or.inl ⟨by rfl, ?_⟩) ?_ ?_
            rotate_left
            · intro w'
              go_simp
              with_reducible rfl
            rotate_left
            · simp only [Act.put, List.setIfInBounds_toArray, List.set_cons_zero, List.set_cons_succ, i64_w, i32_w]
              rfl
            refine done_ (by kernel_rfl) ?_

            go_wp2
            go_meet
            exact ⟨rfl, hkz.trans (hk6.mono (by simp) hkz.size)⟩
        · rw [← HI.out] at hfi
          subst hfi
          have hth : d.there s = true := by unfold Dk.there; rw [hlk]; rfl
          have hj0 : decide ((j : Int) < 0) = false := decide_eq_false (by omega)
          have hR : R = d.dead := by have := refuses_eq (c := false) HU.out HR.out hn hRo (by rw [hth]; rfl) rfl; rw [this]; simp
          subst hR
          refine start_ (n := 27) (S := fun w' => w'.cell? ⟨w.heap.size, 0, none⟩ = some (.slice ao fm cap) ∧ w'.cell? ⟨w.heap.size, 1, none⟩ = some (.int .i64 (d.room : Int)) ∧ w'.cell? ⟨w.heap.size, 2, none⟩ = some (.bool d.fuse.isSome) ∧ w'.cell? ⟨w.heap.size, 3, none⟩ = some (.int .i64 left) ∧ w'.cell? ⟨w.heap.size, 4, none⟩ = some (.bool d.dead) ∧ Kp [] w3.heap.size w3 w') (ds := []) #[false, false, false, false, false, false, false, false, false, false, false, false, false, false, false, false, false, false, false, false, false, false, false, false, false, false, false] (by kernel_rfl) rfl rfl ⟨(by exact e0), (by exact e1), (by exact e2), (by exact e3), (by exact e4), hkz⟩ (fun hHeld => ?_)
          refine pure_ (i := 0) (N := some 18) (v := ?_) (a' := ?_) #[true, false, false, false, false, false, false, false, false, false, false, false, false, false, false, false, false, false, false, false, false, false, false, false, false, false, false] rfl rfl (by kernel_rfl) (fun _ _ _ h => h) (Or.inl ⟨by rfl, ?_⟩) ?_ ?_
          rotate_left
          · intro w'
            go_simp
            with_reducible rfl
          rotate_left
          · simp only [Act.put, List.setIfInBounds_toArray, List.set_cons_zero, List.set_cons_succ, i64_w, i32_w]
            rfl
          refine one_ (i := 1) (N := some 19) #[true, true, false, false, false, false, false, false, false, false, false, false, false, false, false, false, false, false, false, false, false, false, false, false, false, false, false] rfl rfl (by kernel_rfl) (by decide) (fun K hK => ?_)
          refine goes_ Tryz.func73 (by kernel_rfl) rfl #[.string ⟨s.toArray⟩] (by rfl) rfl rfl (by simp only [List.map_toArray, List.map_cons, List.map_nil]; rfl) ?_
          with_reducible refine (hnmd _).mono ?_
          rintro e w5 ⟨rfl, rfl⟩
          refine ⟨_, rfl, ?_⟩
          refine hK.out _ _ ⟨(by exact hHeld.1), (by exact hHeld.2.1), (by exact hHeld.2.2.1), (by exact hHeld.2.2.2.1), (by exact hHeld.2.2.2.2.1), (by exact hHeld.2.2.2.2.2)⟩ (fun hHeld => ?_)
          clear hK K
          refine norm_ (a' := ?_) ?_ ?_
          rotate_left
          · show Act.put _ (some 19) _ = _
            simp only [Act.put, List.setIfInBounds_toArray, List.set_cons_zero, List.set_cons_succ, i64_w, i32_w]
            rfl
          refine pure_ (i := 2) (N := some 20) (v := ?_) (a' := ?_) #[true, true, true, false, false, false, false, false, false, false, false, false, false, false, false, false, false, false, false, false, false, false, false, false, false, false, false] rfl rfl (by kernel_rfl) (fun _ _ _ h => h) (Or.inl ⟨by rfl, ?_⟩) ?_ ?_
          rotate_left
          · intro w'
            go_simp
            with_reducible rfl
          rotate_left
          · simp only [Act.put, List.setIfInBounds_toArray, List.set_cons_zero, List.set_cons_succ, i64_w, i32_w]
            rfl
          refine pure_ (i := 3) (N := some 21) (v := ?_) (a' := ?_) #[true, true, true, true, false, false, false, false, false, false, false, false, false, false, false, false, false, false, false, false, false, false, false, false, false, false, false] rfl rfl (by kernel_rfl) (fun _ _ _ h => h) (Or.inl ⟨by rfl, ?_⟩) ?_ ?_
          rotate_left
          · intro w'
            go_simp
            with_reducible rfl
          rotate_left
          · simp only [Act.put, List.setIfInBounds_toArray, List.set_cons_zero, List.set_cons_succ, i64_w, i32_w]
            rfl
          refine pure_ (i := 6) (N := some 24) (v := ?_) (a' := ?_) #[true, true, true, true, false, false, true, false, false, false, false, false, false, false, false, false, false, false, false, false, false, false, false, false, false, false, false] rfl rfl (by kernel_rfl) (fun _ _ _ h => h) (Or.inl ⟨by rfl, ?_⟩) ?_ ?_
          rotate_left
          · intro w'
            go_simp
            with_reducible rfl
          rotate_left
          · simp only [Act.put, List.setIfInBounds_toArray, List.set_cons_zero, List.set_cons_succ, i64_w, i32_w]
            rfl
          refine pure_ (i := 7) (N := some 25) (v := ?_) (a' := ?_) #[true, true, true, true, false, false, true, true, false, false, false, false, false, false, false, false, false, false, false, false, false, false, false, false, false, false, false] rfl rfl (by kernel_rfl) (fun _ _ _ h => h) (Or.inl ⟨by rfl, ?_⟩) ?_ ?_
          rotate_left
          · intro w'
            go_simp
            with_reducible rfl
          rotate_left
          · simp only [Act.put, List.setIfInBounds_toArray, List.set_cons_zero, List.set_cons_succ, i64_w, i32_w]
            rfl
          refine pure_ (i := 9) (N := some 27) (v := ?_) (a' := ?_) #[true, true, true, true, false, false, true, true, false, true, false, false, false, false, false, false, false, false, false, false, false, false, false, false, false, false, false] rfl rfl (by kernel_rfl) (fun _ _ _ h => h) (Or.inl ⟨by rfl, ?_⟩) ?_ ?_
          rotate_left
          · intro w'
            go_simp
            with_reducible rfl
          rotate_left
          · simp only [Act.put, List.setIfInBounds_toArray, List.set_cons_zero, List.set_cons_succ, i64_w, i32_w]
            rfl
          refine take_ (i := 4) (N := some 22) (v := ?_) (a' := ?_) #[true, true, true, true, true, false, true, true, false, true, false, false, false, false, false, false, false, false, false, false, false, false, false, false, false, false, false] rfl rfl (by kernel_rfl) (fun _ _ _ h => h) (Or.inl ⟨by rfl, ?_⟩) hHeld ?_ ?_
          rotate_left
          · rintro w' ⟨s0, s1, s2, s3, s4, s5⟩
            go_simp
            with_reducible rfl
          rotate_left
          · simp only [Act.put, List.setIfInBounds_toArray, List.set_cons_zero, List.set_cons_succ, i64_w, i32_w]
            rfl
          refine take_ (i := 10) (N := some 28) (v := ?_) (a' := ?_) #[true, true, true, true, true, false, true, true, false, true, true, false, false, false, false, false, false, false, false, false, false, false, false, false, false, false, false] rfl rfl (by kernel_rfl) (fun _ _ _ h => h) (Or.inl ⟨by rfl, ?_⟩) hHeld ?_ ?_
          rotate_left
          · rintro w' ⟨s0, s1, s2, s3, s4, s5⟩
            go_simp
            with_reducible rfl
          rotate_left
          · simp only [Act.put, List.setIfInBounds_toArray, List.set_cons_zero, List.set_cons_succ, i64_w, i32_w]
            rfl
          refine one_ (i := 5) (N := some 23) #[true, true, true, true, true, true, true, true, false, true, true, false, false, false, false, false, false, false, false, false, false, false, false, false, false, false, false] rfl rfl (by kernel_rfl) (by decide) (fun K hK => ?_)
          refine goes_ Tryz.func74 (by kernel_rfl) rfl #[.agg #[.slice ao fm cap, .int .i64 (d.room : Int), .bool d.fuse.isSome, .int .i64 left, .bool d.dead]] (by rfl) rfl rfl (by simp only [List.map_toArray, List.map_cons, List.map_nil]; rfl) ?_
          with_reducible refine (hused _ hHeld.2.2.2.2.2).mono ?_
          rintro e w6 ⟨rfl, hk6⟩
          refine ⟨_, rfl, ?_⟩
          refine hK.out _ _ ⟨((hk6.cell (p := ⟨w.heap.size, 0, none⟩) (Nat.lt_of_lt_of_le hbz hHeld.2.2.2.2.2.size) (by simp)).trans hHeld.1), ((hk6.cell (p := ⟨w.heap.size, 1, none⟩) (Nat.lt_of_lt_of_le hbz hHeld.2.2.2.2.2.size) (by simp)).trans hHeld.2.1), ((hk6.cell (p := ⟨w.heap.size, 2, none⟩) (Nat.lt_of_lt_of_le hbz hHeld.2.2.2.2.2.size) (by simp)).trans hHeld.2.2.1), ((hk6.cell (p := ⟨w.heap.size, 3, none⟩) (Nat.lt_of_lt_of_le hbz hHeld.2.2.2.2.2.size) (by simp)).trans hHeld.2.2.2.1), ((hk6.cell (p := ⟨w.heap.size, 4, none⟩) (Nat.lt_of_lt_of_le hbz hHeld.2.2.2.2.2.size) (by simp)).trans hHeld.2.2.2.2.1), (hHeld.2.2.2.2.2.trans (hk6.mono (by simp) hHeld.2.2.2.2.2.size))⟩ (fun hHeld => ?_)
          clear hK K
          refine norm_ (a' := ?_) ?_ ?_
          rotate_left
          · show Act.put _ (some 23) _ = _
            simp only [Act.put, List.setIfInBounds_toArray, List.set_cons_zero, List.set_cons_succ, i64_w, i32_w]
            rfl
          refine pure_ (i := 8) (N := some 26) (v := ?_) (a' := ?_) #[true, true, true, true, true, true, true, true, true, true, true, false, false, false, false, false, false, false, false, false, false, false, false, false, false, false, false] rfl rfl (by kernel_rfl) (fun _ _ _ h => h) (Or.inl ⟨by rfl, ?_⟩) ?_ ?_
          rotate_left
          · intro w'
            go_simp
            with_reducible rfl
          rotate_left
          · simp only [Act.put, List.setIfInBounds_toArray, List.set_cons_zero, List.set_cons_succ, i64_w, i32_w]
            rfl
          refine pure_ (i := 11) (N := some 29) (v := ?_) (a' := ?_) #[true, true, true, true, true, true, true, true, true, true, true, true, false, false, false, false, false, false, false, false, false, false, false, false, false, false, false] rfl rfl (by kernel_rfl) (fun _ _ _ h => h) (Or.inl ⟨by rfl, ?_⟩) ?_ ?_
          rotate_left
          · intro w'
            go_simp
            with_reducible rfl
          rotate_left
          · simp only [Act.put, List.setIfInBounds_toArray, List.set_cons_zero, List.set_cons_succ, i64_w, i32_w]
            rfl
          refine pure_ (i := 12) (N := some 30) (v := ?_) (a' := ?_) #[true, true, true, true, true, true, true, true, true, true, true, true, true, false, false, false, false, false, false, false, false, false, false, false, false, false, false] rfl rfl (by kernel_rfl) (fun _ _ _ h => h) (Or.inl ⟨by rfl, ?_⟩) ?_ ?_
          rotate_left
          · intro w'
            go_simp
            with_reducible rfl
          rotate_left
          · simp only [Act.put, List.setIfInBounds_toArray, List.set_cons_zero, List.set_cons_succ, i64_w, i32_w]
            rfl
          refine pure_ (i := 13) (N := some 31) (v := ?_) (a' := ?_) #[true, true, true, true, true, true, true, true, true, true, true, true, true, true, false, false, false, false, false, false, false, false, false, false, false, false, false] rfl rfl (by kernel_rfl) (fun _ _ _ h => h) (Or.inl ⟨by rfl, ?_⟩) ?_ ?_
          rotate_left
          · intro w'
            go_simp
            with_reducible rfl
          rotate_left
          · simp only [Act.put, List.setIfInBounds_toArray, List.set_cons_zero, List.set_cons_succ, i64_w, i32_w]
            rfl
          refine pure_ (i := 14) (N := some 32) (v := ?_) (a' := ?_) #[true, true, true, true, true, true, true, true, true, true, true, true, true, true, true, false, false, false, false, false, false, false, false, false, false, false, false] rfl rfl (by kernel_rfl) (fun _ _ _ h => h) (Or.inl ⟨by rfl, ?_⟩) ?_ ?_
          rotate_left
          · intro w'
            go_simp
            with_reducible rfl
          rotate_left
          · simp only [Act.put, List.setIfInBounds_toArray, List.set_cons_zero, List.set_cons_succ, i64_w, i32_w]
            rfl
          refine pure_ (i := 15) (N := some 33) (v := ?_) (a' := ?_) #[true, true, true, true, true, true, true, true, true, true, true, true, true, true, true, true, false, false, false, false, false, false, false, false, false, false, false] rfl rfl (by kernel_rfl) (fun _ _ _ h => h) (Or.inl ⟨by rfl, ?_⟩) ?_ ?_
          rotate_left
          · intro w'
            go_simp
            with_reducible rfl
          rotate_left
          · simp only [Act.put, List.setIfInBounds_toArray, List.set_cons_zero, List.set_cons_succ, i64_w, i32_w]
            rfl
          refine pure_ (i := 16) (N := some 34) (v := ?_) (a' := ?_) #[true, true, true, true, true, true, true, true, true, true, true, true, true, true, true, true, true, false, false, false, false, false, false, false, false, false, false] rfl rfl (by kernel_rfl) (fun _ _ _ h => h) (Or.inl ⟨by rfl, ?_⟩) ?_ ?_
          rotate_left
          · intro w'
            go_simp
            with_reducible rfl
          rotate_left
          · simp only [Act.put, List.setIfInBounds_toArray, List.set_cons_zero, List.set_cons_succ, i64_w, i32_w]
            rfl
          refine pure_ (i := 17) (N := some 35) (v := undef) (a' := ?_) #[true, true, true, true, true, true, true, true, true, true, true, true, true, true, true, true, true, true, false, false, false, false, false, false, false, false, false] rfl rfl (by kernel_rfl) (fun _ _ _ h => h) (Or.inr ⟨by rfl, rfl⟩) ?_ ?_
          rotate_left
          · simp only [Act.put, List.setIfInBounds_toArray, List.set_cons_zero, List.set_cons_succ, i64_w, i32_w]
            rfl
          refine pure_ (i := 18) (N := some 36) (v := undef) (a' := ?_) #[true, true, true, true, true, true, true, true, true, true, true, true, true, true, true, true, true, true, true, false, false, false, false, false, false, false, false] rfl rfl (by kernel_rfl) (fun _ _ _ h => h) (Or.inr ⟨by rfl, rfl⟩) ?_ ?_
          rotate_left
          · simp only [Act.put, List.setIfInBounds_toArray, List.set_cons_zero, List.set_cons_succ, i64_w, i32_w]
            rfl
          refine pure_ (i := 19) (N := some 37) (v := undef) (a' := ?_) #[true, true, true, true, true, true, true, true, true, true, true, true, true, true, true, true, true, true, true, true, false, false, false, false, false, false, false] rfl rfl (by kernel_rfl) (fun _ _ _ h => h) (Or.inr ⟨by rfl, rfl⟩) ?_ ?_
          rotate_left
          · simp only [Act.put, List.setIfInBounds_toArray, List.set_cons_zero, List.set_cons_succ, i64_w, i32_w]
            rfl
          refine pure_ (i := 20) (N := some 38) (v := undef) (a' := ?_) #[true, true, true, true, true, true, true, true, true, true, true, true, true, true, true, true, true, true, true, true, true, false, false, false, false, false, false] rfl rfl (by kernel_rfl) (fun _ _ _ h => h) (Or.inr ⟨by rfl, rfl⟩) ?_ ?_
          rotate_left
          · simp only [Act.put, List.setIfInBounds_toArray, List.set_cons_zero, List.set_cons_succ, i64_w, i32_w]
            rfl
          refine pure_ (i := 21) (N := some 39) (v := ?_) (a' := ?_) #[true, true, true, true, true, true, true, true, true, true, true, true, true, true, true, true, true, true, true, true, true, true, false, false, false, false, false] rfl rfl (by kernel_rfl) (fun _ _ _ h => h) (Or.inl ⟨by rfl, ?_⟩) ?_ ?_
          rotate_left
          · intro w'
            go_simp
            with_reducible rfl
          rotate_left
          · simp only [Act.put, List.setIfInBounds_toArray, List.set_cons_zero, List.set_cons_succ, i64_w, i32_w]
            rfl
          refine pure_ (i := 22) (N := some 40) (v := ?_) (a' := ?_) #[true, true, true, true, true, true, true, true, true, true, true, true, true, true, true, true, true, true, true, true, true, true, true, false, false, false, false] rfl rfl (by kernel_rfl) (fun _ _ _ h => h) (Or.inl ⟨by rfl, ?_⟩) ?_ ?_
          rotate_left
          · intro w'
            go_simp
            with_reducible rfl
          rotate_left
          · simp only [Act.put, List.setIfInBounds_toArray, List.set_cons_zero, List.set_cons_succ, i64_w, i32_w]
            rfl
          refine pure_ (i := 23) (N := some 41) (v := ?_) (a' := ?_) #[true, true, true, true, true, true, true, true, true, true, true, true, true, true, true, true, true, true, true, true, true, true, true, true, false, false, false] rfl rfl (by kernel_rfl) (fun _ _ _ h => h) (Or.inl ⟨by rfl, ?_⟩) ?_ ?_
          rotate_left
          · intro w'
            go_simp
            with_reducible rfl
          rotate_left
          · simp only [Act.put, List.setIfInBounds_toArray, List.set_cons_zero, List.set_cons_succ, i64_w, i32_w]
            rfl
          refine pure_ (i := 24) (N := some 42) (v := ?_) (a' := ?_) #[true, true, true, true, true, true, true, true, true, true, true, true, true, true, true, true, true, true, true, true, true, true, true, true, true, false, false] rfl rfl (by kernel_rfl) (fun _ _ _ h => h) (Or.inl ⟨by rfl, ?_⟩) ?_ ?_
          rotate_left
          · intro w'
            go_simp
            with_reducible rfl
          rotate_left
          · simp only [Act.put, List.setIfInBounds_toArray, List.set_cons_zero, List.set_cons_succ, i64_w, i32_w]
            rfl
          refine take_ (i := 25) (N := some 43) (v := ?_) (a' := ?_) #[true, true, true, true, true, true, true, true, true, true, true, true, true, true, true, true, true, true, true, true, true, true, true, true, true, true, false] rfl rfl (by kernel_rfl) (fun _ _ _ h => h) (Or.inl ⟨by rfl, ?_⟩) hHeld ?_ ?_
          rotate_left
          · rintro w' ⟨s0, s1, s2, s3, s4, s5⟩
            go_simp
            with_reducible rfl
          rotate_left
          · simp only [Act.put, List.setIfInBounds_toArray, List.set_cons_zero, List.set_cons_succ, i64_w, i32_w]
            rfl
          refine pure_ (i := 26) (N := some 44) (v := ?_) (a' := ?_) #[true, true, true, true, true, true, true, true, true, true, true, true, true, true, true, true, true, true, true, true, true, true, true, true, true, true, true] rfl rfl (by kernel_rfl) (fun _ _ _ h => h) (Or.inl ⟨by rfl, ?_⟩) ?_ ?_
          rotate_left
          · intro w'
            go_simp
            with_reducible rfl
          rotate_left
          · simp only [Act.put, List.setIfInBounds_toArray, List.set_cons_zero, List.set_cons_succ, i64_w, i32_w]
            rfl
          refine done_ (by kernel_rfl) ?_

          go_wp2
          go_meet
          exact ⟨rfl, hkz.trans (hk6.mono (by simp) hkz.size)⟩
  case rest =>
    obtain ⟨rfl, hcut⟩ := hcut
    have B4 := Lib.hid (B3.out.next hcut.out)
    clear hcut B3 HH3
    cases R with
    | true =>
      have HDR : Hid (d.append s b = (d, false)) := by show _ = _; unfold Dk.append; rw [← HMB.out, ← HR.out, if_pos rfl]
      go_wp2_with (first | (refine wpList_ldT rfl _ rfl _ _ rfl B4.out.box rfl ?_) | (refine wpList_stT rfl _ _ rfl _ _ _ _ _ _ _ rfl rfl B4.out.ans rfl ⟨rfl, rfl, rfl, rfl, rfl⟩ ?_; intro w5 hg5 k5 z5))
      have K5 := B4.out.kp.trans (k5.shed (B' := w.heap.size) (by simp) (by have := B4.out.size; omega))
      (try simp only [Exit.inBlock, Exit.then])
      refine bodyPost_ret (YtdabflkejhoghaaGreat.HW.results_ct rfl _ _ (w.heap.size + 1) 31 _ (0, 0) _ rfl hg5 Tryz.underlying31 rfl infoT) rfl ?_
      rw [HDR.out]
      exact ⟨_, rfl, HH.out.kp K5, K5⟩
    | false =>
      have hrf : d.dead = false ∧ ¬ d.room < used d.files + m := by
        have hr := HR.out
        unfold Dk.refuses at hr
        simp only [Bool.false_eq, Bool.or_eq_false_iff, decide_eq_false_iff_not] at hr
        exact ⟨hr.1, hr.2.2.1⟩
      obtain ⟨hdf, hroom⟩ := hrf
      have hm20 : m ≤ 1048576 := by omega
      have HDR : Hid (d.append s b = (d.appended s b, decide (d.burn m = m))) := by show _ = _; unfold Dk.append; rw [← HMB.out, ← HR.out]; rfl
      have HDF := Lib.hid hdf
      have hsz4 := B4.out.size
      obtain ⟨gf, hgf⟩ : ∃ gf, gf = wc.heap.size := ⟨_, rfl⟩
      have hg2 : w.heap.size + 2 ≤ gf := by omega
      have HW5 : Hid (∃ W5, W5 = wc.alloc (.cells #[.string ⟨s.toArray⟩, .slice none 0 0, .int .i64 0] 65) ∧ W5.heap[gf]? = some (.cells #[.string ⟨s.toArray⟩, .slice none 0 0, .int .i64 0] 65 (0, 0)) ∧ W5.heap.size = gf + 1 ∧ Boxes w W5 (.slice ao fm cap) (.int .i64 (d.room : Int)) (.bool d.fuse.isSome) (.int .i64 left) (.bool d.dead)) :=
        ⟨_, rfl, by rw [hgf]; exact World.alloc_heap_new wc _, by rw [hgf]; simp, B4.out.next (kp1 _ _)⟩
      have HGF := Lib.hid hgf
      clear hgf hroom hdf
      go_upto_if 49 with fail
      rw [show wc.heap.size = gf from HGF.out.symm]
      obtain ⟨W5, hW5, hf5, hz5, hb5⟩ := HW5.out
      rw [← hW5]
      have HF5 := Lib.hid hf5
      have B5 := Lib.hid hb5
      clear hW5 hf5 hb5 HW5 B4
      go_cut [] (fun wx => Hid (∃ fo fn fc, wx.heap[gf]? = some (.cells #[.string ⟨s.toArray⟩, .slice fo fn fc, .int .i64 ((d.old s).lasts : Int)] 65 (0, 0)) ∧ fn = (d.old s).b.length ∧ BytesV w (fun _ => True) (.slice fo fn fc) (d.old s).b ∧ Kp [gf] W5.heap.size W5 wx ∧ wx.heap.size = gf + 1))
      case first =>
        rcases findI_look (d := d) (s := s) with ⟨hlk, hfi⟩ | ⟨j, hj, hfi, hlk⟩
        · rw [← HI.out] at hfi
          subst hfi
          have hold : d.old s = ⟨s, [], 0⟩ := by unfold Dk.old; rw [hlk]; rfl
          go_wp2
          go_meet
          exact ⟨none, 0, 0, by rw [hold]; exact HF5.out, by rw [hold]; rfl, by rw [hold]; exact BytesV.nil _ _, Kp.refl _ _ _, hz5⟩
        · rw [← HI.out] at hfi
          subst hfi
          have hold : d.old s = d.files[j] := by unfold Dk.old; rw [hlk]; rfl
          have hnm := (Dk.look_mem hlk).2
          obtain ⟨e0, -, -, -, -⟩ := B5.out.cells
          obtain ⟨g, vb, hg0, -, hg, c0, c1, c2, hvb⟩ := HFW.out.at j hj
          obtain ⟨bb, capb, rfl, -, -, -⟩ := id hvb
          subst hg0
          rw [← hold] at c0 c1 c2 hvb hnm
          rw [hnm] at c0
          have d0 := (B5.out.kp.cell (p := ⟨g, j * 3, none⟩) hg (by simp)).trans c0
          have d1 := (B5.out.kp.cell (p := ⟨g, j * 3 + 1, none⟩) hg (by simp)).trans c1
          have d2 := (B5.out.kp.cell (p := ⟨g, j * 3 + 2, none⟩) hg (by simp)).trans c2
          have HVB := Lib.hid hvb
          have hjm : (j : Int) < (fm : Int) := by have := HM.out; omega
          have hj2 : (0 : Int) ≤ (j : Int) := by omega
          have hj0 : decide ((0 : Int) ≤ (j : Int)) = true := decide_eq_true hj2
          clear c0 c1 c2 hvb hlk hold hnm
          go_wp2_with (refine wpList_stF rfl _ _ rfl _ _ _ _ _ rfl rfl HF5.out rfl ⟨rfl, rfl, rfl⟩ ?_; intro w6 hg6 k6 z6)
          go_meet
          exact ⟨_, _, _, hg6, rfl, HVB.out, k6, by rw [z6]; exact hz5⟩
      case rest =>
        obtain ⟨fo, fn, fc, hfx, hfn, hfb, hkx, hzx⟩ := hcut.out
        have hfl := HOLD.out
        have BX := Lib.hid (B5.out.nextL hkx (by simp; omega))
        have HFB := Lib.hid (hfb.kp BX.out.kp (by simp))
        have HFX := Lib.hid hfx
        obtain ⟨p0, p1, p2⟩ := boxF hfx
        have hfn20 : fn ≤ 1048576 := by omega
        have HFN := Lib.hid hfn
        clear hcut hfx hfn hfb hkx B5 HF5 hz5 hfl
        have HN0 : Hid (wc.ownsRow (gf + 1) 5 1 (.slice none 0 0) 0 []) := ⟨rfl, .inl ⟨rfl, rfl⟩⟩
        go_upto_region 9 with (at_builtin; go_must (refine wpList_appB rfl _ _ rfl (gf + 1) _ 0 [] rfl HN0.out rfl HFB.out (by have := HFN.out; omega) (by omega) ?_; intro v7 w7 h7 g7))
        have k7 : Kp [] (gf + 1) wc w7 := kp_grown g7 (own_ge HN0.out) (by omega)
        rw [Nat.zero_add, ← HFN.out, List.nil_append] at h7
        have HR7 := Lib.hid h7
        have HK7 := Lib.hid k7
        obtain ⟨o7, n7, c7, rfl, hn7⟩ := own_shape h7
        clear h7 g7 k7 HN0
        subst hn7
        have HI0 : Hid (w7.ownsRow (gf + 1) 5 1 (.slice o7 n7 c7) (n7 + 0) (bcells ((d.old s).b ++ b.take 0)) ∧ Boxes w w7 (.slice ao fm cap) (.int .i64 (d.room : Int)) (.bool d.fuse.isSome) (.int .i64 left) (.bool d.dead) ∧ w7.heap[gf]? = some (.cells #[.string ⟨s.toArray⟩, .slice fo n7 fc, .int .i64 ((d.old s).lasts : Int)] 65 (0, 0)) ∧ gf + 1 ≤ w7.heap.size) := by
          refine ⟨?_, BX.out.nextB HK7.out (by omega) (by simp), (HK7.out.block gf (by omega) (by simp)).trans HFX.out, by have := HK7.out.size; omega⟩
          have h := HR7.out
          rw [List.take_zero, List.append_nil]
          exact h
        have HT0 : Hid (BurnI d m 0 0 true d) := BurnI.start m HDF.out
        have HQ0 : Hid (IsT w (.agg #[.slice ao fm cap, .int .i64 (d.room : Int), .bool d.fuse.isSome, .int .i64 left, .bool d.dead]) d) := HH.out
        clear HR7 HK7 BX HFB HFX p0 p1 p2 hzx
        go_wp2_with fail
        go_loopw [10, 11, 12] (fun av ok i wr => ∃ (k n na ca : Nat) (oa : Option Addr) (okb : Bool) (e : Dk) (lf : Int), k ≤ m ∧ n ≤ k ∧ av = .slice oa na ca ∧ ok = .bool okb ∧ i = .int .i64 (k : Int) ∧ na = n7 + n ∧ Hid (BurnI d m k n okb e) ∧ Hid (IsT w (.agg #[.slice ao fm cap, .int .i64 (e.room : Int), .bool e.fuse.isSome, .int .i64 lf, .bool e.dead]) e) ∧ Hid (wr.ownsRow (gf + 1) 5 1 (.slice oa na ca) (n7 + n) (bcells ((d.old s).b ++ b.take n)) ∧ Boxes w wr (.slice ao fm cap) (.int .i64 (e.room : Int)) (.bool e.fuse.isSome) (.int .i64 lf) (.bool e.dead) ∧ wr.heap[gf]? = some (.cells #[.string ⟨s.toArray⟩, .slice fo n7 fc, .int .i64 ((d.old s).lasts : Int)] 65 (0, 0)) ∧ gf + 1 ≤ wr.heap.size)) (fun _ _ i _ => m - (intOf i).toNat)
        case atStart => exact ⟨0, 0, n7, c7, o7, true, d, left, by omega, by omega, rfl, rfl, rfl, rfl, HT0, HQ0, HI0⟩
        case round =>
          obtain ⟨k, n, na, ca, oa, okb, e, lf, hk, hnk, rfl, rfl, rfl, hna, HBu, HQ, HIN⟩ := hrel
          subst hna
          obtain ⟨hrow, hbx, hfx, hzr⟩ := HIN.out
          have HROW := Lib.hid hrow
          have BX := Lib.hid hbx
          have HFX := Lib.hid hfx
          clear hrow hbx hfx HIN HI0 HT0 HQ0
          by_cases hgo : k < m ∧ okb = true
          · obtain ⟨hkm, rfl⟩ := hgo
            have dk : decide ((k : Int) < (m : Int)) = true := decide_eq_true (by omega)
            obtain ⟨hnk2, hef, her, hBu⟩ := HBu.out.more hkm
            obtain rfl : k = n := hnk2.symm
            have HBU := Lib.hid hBu
            clear hBu HBu
            have HEF := Lib.hid hef
            clear hef her
            have HT := Lib.hid (HQ.out.kp BX.out.kp)
            go_wp2_with (refine wpList_ldT rfl _ rfl _ _ rfl BX.out.box rfl ?_)
            refine (rstepO e _ lf wr HT.out).mono ?_
            rintro e0 w8 ⟨lf', rfl, hT8, k8⟩
            have HT8 : Hid (IsT w (.agg #[.slice ao fm cap, .int .i64 (e.step.1.room : Int), .bool e.step.1.fuse.isSome, .int .i64 lf', .bool e.step.1.dead]) e.step.1) := hT8 w (by rw [HEF.out]; exact HFW.out)
            have BX8 := Lib.hid (BX.out.next k8)
            have HROW8 := Lib.hid (own_kp HROW.out k8 (Nat.le_refl _))
            have HFX8 := Lib.hid ((k8.block gf (by omega) (by simp)).trans HFX.out)
            have hz8 : gf + 1 ≤ w8.heap.size := Nat.le_trans hzr k8.size
            obtain ⟨e', he'⟩ : ∃ e', e' = e.step.1 := ⟨_, rfl⟩
            obtain ⟨ok', hok'⟩ : ∃ ok', ok' = e.step.2 := ⟨_, rfl⟩
            rw [← he'] at HT8 HBU ⊢
            rw [← hok'] at HBU ⊢
            clear hT8 k8 he' hok' HQ HT BX HROW HFX
            go_upto_region 15 with (refine wpList_stT rfl _ _ rfl _ _ _ _ _ _ _ rfl rfl (BX8.out.next (kp1 _ _)).box rfl ⟨rfl, rfl, rfl, rfl, rfl⟩ ?_; intro w9 hg9 k9 z9)
            have BX9 := Lib.hid ((BX8.out.next (kp1 w8 (.cells #[.slice ao fm cap, .int .i64 (e'.room : Int), .bool e'.fuse.isSome, .int .i64 lf', .bool e'.dead] 31))).put k9 hg9)
            have HROW9 := Lib.hid (own_kpL (own_kp HROW8.out (kp1 w8 (.cells #[.slice ao fm cap, .int .i64 (e'.room : Int), .bool e'.fuse.isSome, .int .i64 lf', .bool e'.dead] 31)) (Nat.le_refl _)) k9 (by simp; omega))
            have HFX9 := Lib.hid ((k9.block gf (by simp; omega) (by simp; omega)).trans ((Below.heap_alloc _ _ _ (by omega)).trans HFX8.out))
            have hz9 : gf + 1 ≤ w9.heap.size := by rw [z9]; simp; omega
            clear hg9 k9 z9 BX8 HROW8 HFX8
            cases ok' with
            | false =>
              go_wp2_with fail
              go_roundw
              case rel => exact ⟨k + 1, k, n7 + k, ca, oa, false, e', lf', by omega, by omega, rfl, rfl, by go_num, rfl, HBU.out, HT8.out, HROW9.out, BX9.out, HFX9.out, hz9⟩
              case measure => simp [intOf]; omega
            | true =>
              have hkb : k < b.length := by rw [← HMB.out]; exact hkm
              have hB9 := HB.out.kp BX9.out.kp (by simp)
              obtain ⟨xb, rfl, hxc⟩ := hB9.at hkb
              have HTK := Lib.hid (List.take_succ_eq_append_getElem hkb)
              obtain ⟨cb, hcb⟩ : ∃ cb, cb = b[k] := ⟨_, rfl⟩
              rw [← hcb] at hxc HTK
              clear hB9 hcb
              go_wp2_with (at_builtin; go_must (refine wpList_appB rfl _ _ rfl (gf + 1) _ (n7 + k) _ rfl (HROW9.out.alloc _) (A := fun _ => True) (b := [cb]) rfl (BytesV.lit1 trivial) (by simp; omega) (by simp; omega) ?_; intro v10 w10 h10 g10))
              have k10 : Kp [] (gf + 1) _ w10 := kp_grown g10 (own_ge HROW9.out) (by simp; omega)
              have k11 := ((Kp.refl [] (gf + 1) w9).alloc hz9 (.cells #[.int .u8 (cb.toNat : Int)] 5)).trans k10
              have h11 : w10.ownsRow (gf + 1) 5 1 v10 (n7 + (k + 1)) (bcells ((d.old s).b ++ b.take (k + 1))) := by
                rw [HTK.out, ← List.append_assoc, bcells_app]; exact h10
              obtain ⟨o11, n11, c11, rfl, hn11⟩ := own_shape h11
              have H11 := Lib.hid h11
              have K11 := Lib.hid k11
              subst hn11
              clear h10 g10 k10 k11 h11 hxc
              go_wp2_with fail
              go_roundw
              case rel => exact ⟨k + 1, k + 1, n7 + (k + 1), c11, o11, true, e', lf', by omega, by omega, rfl, rfl, by go_num, rfl, HBU.out, HT8.out, H11.out, BX9.out.nextB K11.out (by omega) (by simp), (K11.out.block gf (by omega) (by simp)).trans HFX9.out, Nat.le_trans hz9 K11.out.size⟩
              case measure => simp [intOf]; omega
          · obtain ⟨hn, hokb, he⟩ := HBu.out.done (fun h => by
              by_cases hkm : k < m
              · exact absurd ⟨hkm, h⟩ hgo
              · omega)
            have happ : Hid (d.append s b = (⟨putBy F.name ⟨s, (d.old s).b ++ b.take n, (d.old s).lasts⟩ d.files, e.room, e.fuse, e.dead⟩, okb)) := by
              show _ = _
              rw [HDR.out, hokb, he]
              unfold Dk.appended
              rw [← HMB.out, ← hn]
            have HFR : Hid (FilesO wr wr 0 (.slice ao fm cap) d.files) := FilesR.kp HFW.out BX.out.kp
            have HAB : Hid (BytesV wr (fun _ => True) (.slice oa (n7 + n) ca) ((d.old s).b ++ b.take n)) := BytesV.own HROW.out (fun _ _ => trivial)
            obtain ⟨-, -, f2⟩ := boxF HFX.out
            have hfew : d.files.length ≤ 8 := by have := HM.out; omega
            have D : k = m ∨ (k < m ∧ okb = false) := by
              by_cases hkm : k < m
              · right
                refine ⟨hkm, ?_⟩
                cases okb with
                | false => rfl
                | true => exact absurd ⟨hkm, rfl⟩ hgo
              · left; omega
            clear hn hokb he hgo
            rcases D with D | ⟨D, rfl⟩
            rotate_left
            have D2 : decide ((k : Int) < (m : Int)) = true := decide_eq_true (by omega)
            rotate_left
            subst D
            rotate_left
            all_goals (
              go_wp2_with (refine wpList_ldT rfl _ rfl _ _ rfl BX.out.box rfl ?_)
              refine (rputO wr wr _ d.files _ _ _ _ ⟨s, (d.old s).b ++ b.take n, (d.old s).lasts⟩ _ HFR.out hfew HAB.out).mono ?_
              rintro e6 w6 ⟨fv6, rfl, hf6, k6⟩
              obtain ⟨ao6, cap6, rfl, -, -⟩ := hf6.shape
              obtain ⟨m6, hm6⟩ : ∃ m6, m6 = (putBy F.name ⟨s, (d.old s).b ++ b.take n, (d.old s).lasts⟩ d.files).length := ⟨_, rfl⟩
              rw [← hm6] at hf6 ⊢
              have HF6 := Lib.hid hf6
              have K6 := Lib.hid k6
              have B6 := Lib.hid (BX.out.next k6)
              clear hf6 k6 hm6 f2
              go_wp2_with (refine wpList_stT rfl _ _ rfl _ _ _ _ _ _ _ rfl rfl B6.out.ans rfl ⟨rfl, rfl, rfl, rfl, rfl⟩ ?_; intro w7 hg7 k7 z7)
              have K7 := B6.out.kp.trans (k7.shed (B' := w.heap.size) (by simp) (by have := B6.out.size; omega))
              (try simp only [Exit.inBlock, Exit.then])
              refine bodyPost_ret (YtdabflkejhoghaaGreat.HW.results_ct rfl _ _ (w.heap.size + 1) 31 _ (0, 0) _ rfl hg7 Tryz.underlying31 rfl infoT) rfl ?_
              have hokA := HOKA.out
              rw [happ.out] at hokA ⊢
              obtain ⟨fv9, left9, heq, _, hq1, hq2, hq3, -⟩ := HQ.out
              obtain ⟨rfl, rfl⟩ : Value.slice ao fm cap = fv9 ∧ lf = left9 := by simpa using heq
              exact ⟨_, rfl, ⟨_, lf, rfl, HF6.out.shun K6.out B6.out.ans (by omega) k7, hq1, hq2, hq3, hokA⟩, K7⟩)
end Go.Proofs.YtdabflkejhoghaaGreat.Hand
