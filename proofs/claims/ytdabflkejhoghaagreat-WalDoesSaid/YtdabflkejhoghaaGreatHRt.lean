/- The reference's disk: what its values hold; find. -/
import Derived.Below
import Derived.Deep.Draws
import Derived.Deep.AppendLies
import Derived.Maps.AppendAt
import Derived.OwnWalk
import Derived.Laws.BytesArg
import Derived.Laws.MakeOwn
import Derived.Laws.OwnMore
import Derived.Deep.OwnRows
import Derived.Tactics
import Derived.Lib.ConvBytes
import Derived.Laws.Slices
import Derived.WalkKit
import Derived.KernelRfl
import Derived.RowKit3
import Derived.Deep.LoopGhost
import Derived.Deep.QuietTactic
import Derived.BigQuiet
import Derived.WideLaws
import Derived.Deep.DeepCutAuto
import Derived.Deep.CutBlock
import Derived.Deep.RegionHeld3
import Derived.Laws.Rows
import Derived.Lib.AppendStr
import Derived.ArgAppend
import Derived.Laws.IdiomCopy
import Derived.OrdersHeld
import Derived.Laws.BitsLemmas
import Derived.RowKit
import Derived.Outline
import Derived.Maps.Own
import Derived.Maps.OwnOps
import Derived.Maps.OwnSet
import Derived.Maps.Views
import Derived.Maps.RangeWalk
import Derived.Maps.Ext
import Derived.RangeFuncOwn
import Derived.OneCell
import Derived.Deep.DeepMust
import Derived.Lib.Hide
import Derived.StillTailTactics
import Derived.Laws.AppendOwnNone
import Derived.WalkMore
import Derived.Lib.SlBytesConst
import Derived.WalkLawsBesides
import Derived.Test.YtdabflkejhoghaaGreatHQc
namespace Go.Proofs.YtdabflkejhoghaaGreat.Hand
open Go Go.RowKit Go.Maps Go.WideMaps
set_option linter.unusedVariables false
set_option linter.unusedSimpArgs false
theorem mk_toList (l : List UInt8) : (⟨l.toArray⟩ : ByteArray).toList = l := by simp
theorem info_parts8 {P : Program} {t : TypeId} {z : Value} {n m : Nat} (h : (P.info? t).map (fun i => (i.zero, i.size, i.bytes)) = some (some z, n, m)) : ∃ i, P.info? t = some i ∧ i.zero = some z ∧ i.size = n ∧ i.bytes = m := by
  cases hi : P.info? t with
  | none => rw [hi] at h; cases h
  | some i => rw [hi] at h; simp only [Option.map_some, Option.some.injEq, Prod.mk.injEq] at h; exact ⟨i, rfl, h.1, h.2.1, h.2.2⟩
abbrev Hf := F × Value
def fcell (h : Hf) : List Value := [.string ⟨h.1.name.toArray⟩, h.2, .int .i64 (h.1.lasts : Int)]
def fcells : List Hf → List Value
  | [] => []
  | h :: l => .string ⟨h.1.name.toArray⟩ :: h.2 :: .int .i64 (h.1.lasts : Int) :: fcells l
theorem fcells_len : ∀ l : List Hf, (fcells l).length = l.length * 3
  | [] => rfl
  | h :: l => by simp only [fcells, List.length_cons, fcells_len l]; omega
theorem fcells_app : ∀ l m : List Hf, fcells (l ++ m) = fcells l ++ fcells m
  | [], m => rfl
  | h :: l, m => by simp only [List.cons_append, fcells, fcells_app l m]
theorem fcells_at : ∀ (l : List Hf) (j : Nat) (hj : j < l.length), (fcells l)[3 * j]? = some (.string ⟨l[j].1.name.toArray⟩) ∧ (fcells l)[3 * j + 1]? = some l[j].2 ∧ (fcells l)[3 * j + 2]? = some (.int .i64 (l[j].1.lasts : Int))
  | h :: l, 0, _ => ⟨rfl, rfl, rfl⟩
  | h :: l, j + 1, hj => by
    have ih := fcells_at l j (by simpa using hj)
    have e : ∀ r, 3 * (j + 1) + r = (3 * j + r) + 1 + 1 + 1 := by intro r; omega
    refine ⟨?_, ?_, ?_⟩
    · rw [show 3 * (j + 1) = (3 * j) + 1 + 1 + 1 by omega]; simp only [fcells, List.getElem?_cons_succ]; exact ih.1
    · rw [e 1]; simp only [fcells, List.getElem?_cons_succ]; exact ih.2.1
    · rw [e 2]; simp only [fcells, List.getElem?_cons_succ]; exact ih.2.2
/-- a slice of files -/
def FilesR (w : World) (base : Nat) (v : Value) (l : List F) : Prop := ∃ hs : List Hf, l = hs.map (·.1) ∧ w.ownsRow base 65 3 v l.length (fcells hs) ∧ ∀ h ∈ hs, BytesV w (fun _ => True) h.2 h.1.b
theorem ownsRow_kept {w w' : World} {base e size n : Nat} {v : Value} {xs : List Value} (h : w.ownsRow base e size v n xs) (hk : Kp [] w.heap.size w w') : w'.ownsRow base e size v n xs := by
  obtain ⟨h1, h2⟩ := h
  refine ⟨h1, ?_⟩
  rcases h2 with h2 | ⟨g, cap, cur, hv, hg, hb, h3⟩
  · exact .inl h2
  · exact .inr ⟨g, cap, cur, hv, hg, (hk.block g (Array.getElem?_eq_some_iff.1 hb).1 (by simp)).trans hb, h3⟩
theorem FilesR.kp {w w' : World} {base : Nat} {v : Value} {l : List F} (h : FilesR w base v l) (hk : Kp [] w.heap.size w w') : FilesR w' base v l := by
  obtain ⟨hs, h1, h2, h3⟩ := h
  exact ⟨hs, h1, ownsRow_kept h2 hk, fun h hh => (h3 h hh).kp hk (by simp)⟩
theorem FilesR.shape {w : World} {base : Nat} {v : Value} {l : List F} (h : FilesR w base v l) : ∃ ao cap, v = .slice ao l.length cap ∧ l.length ≤ cap ∧ cap ≤ maxLen := by
  obtain ⟨hs, h1, ⟨h2, h3⟩, _⟩ := h
  rcases h3 with ⟨hv, hn⟩ | ⟨g, cap, cur, hv, _, _, h4, h5, _⟩
  · exact ⟨none, 0, by rw [hv, hn], by omega, by decide⟩
  · exact ⟨_, cap, hv, h4, h5⟩
theorem FilesR.at {w : World} {base n cap : Nat} {ao : Option Addr} {l : List F} (h : FilesR w base (.slice ao n cap) l) (j : Nat) (hj : j < l.length) : ∃ g vb, ao = some ⟨g, 0, none⟩ ∧ base ≤ g ∧ g < w.heap.size ∧ w.cell? ⟨g, j * 3, none⟩ = some (.string ⟨l[j].name.toArray⟩) ∧ w.cell? ⟨g, j * 3 + 1, none⟩ = some vb ∧ w.cell? ⟨g, j * 3 + 2, none⟩ = some (.int .i64 (l[j].lasts : Int)) ∧ BytesV w (fun _ => True) vb l[j].b := by
  obtain ⟨hs, rfl, ⟨h2, h3⟩, h4⟩ := h
  have hj' : j < hs.length := by simpa using hj
  rcases h3 with ⟨hv, hn⟩ | ⟨g, cap', cur, hv, hg, hb, h5, h6, h7, h8⟩
  · omega
  · injection hv with hv _ _
    have hc : ∀ i, i < 3 * hs.length → w.cell? ⟨g, i, none⟩ = (fcells hs)[i]? := by
      intro i hi
      rw [Lib.cell_of_heap hb, ← Array.getElem?_toList, ← h8, List.getElem?_take_of_lt (by simp; omega)]
    obtain ⟨e1, e2, e3⟩ := fcells_at hs j hj'
    rw [show 3 * j = j * 3 by omega] at e1 e2 e3
    refine ⟨g, hs[j].2, hv, hg, (Array.getElem?_eq_some_iff.1 hb).1, ?_, ?_, ?_, ?_⟩
    · rw [hc _ (by omega), e1]; simp
    · rw [hc _ (by omega), e2]
    · rw [hc _ (by omega), e3]; simp
    · simpa using h4 hs[j] (List.getElem_mem _)
/-- a disk of the reference's -/
def IsT (w : World) (v : Value) (d : Dk) : Prop := ∃ (fv : Value) (left : Int), v = .agg #[fv, .int .i64 (d.room : Int), .bool d.fuse.isSome, .int .i64 left, .bool d.dead] ∧ FilesR w 0 fv d.files ∧ (∀ n, d.fuse = some n → left = n) ∧ 0 ≤ left ∧ left ≤ 9223372036854775807 ∧ d.Ok
theorem IsT.kp {w w' : World} {v : Value} {d : Dk} (h : IsT w v d) (hk : Kp [] w.heap.size w w') : IsT w' v d := by
  obtain ⟨fv, left, h1, h2, h3⟩ := h
  exact ⟨fv, left, h1, h2.kp hk, h3⟩
def findI (l : List F) (s : List UInt8) : Int := match l.findIdx? (fun f => f.name == s) with | some i => (i : Int) | none => -1
theorem findI_at {l : List F} {s : List UInt8} {j : Nat} (hj : j < l.length) (h : l[j].name = s) (hb : ∀ k (hk : k < l.length), k < j → l[k].name ≠ s) : findI l s = (j : Int) := by
  unfold findI
  have : l.findIdx? (fun f => f.name == s) = some j := by
    rw [List.findIdx?_eq_some_iff_getElem]
    exact ⟨hj, by simpa using h, fun k hk => by simpa using hb k (by omega) hk⟩
  rw [this]
theorem findI_none {l : List F} {s : List UInt8} (hb : ∀ k (hk : k < l.length), l[k].name ≠ s) : findI l s = -1 := by
  unfold findI
  have : l.findIdx? (fun f => f.name == s) = none := by
    rw [List.findIdx?_eq_none_iff]
    intro x hx
    obtain ⟨k, hk, rfl⟩ := List.getElem_of_mem hx
    simpa using hb k hk
  rw [this]
set_option maxRecDepth 100000 in
theorem rfind (d : Dk) (v : Value) (s : List UInt8) (w : World) (h : IsT w v d) :
    Calls Tryz.prog 56 #[v, .string ⟨s.toArray⟩] w fun e w' => e = .returned (.int .i64 (findI d.files s)) ∧ Kp [] w.heap.size w w' := by
  obtain ⟨fv, left, rfl, hf, hl1, hl2, hl3, hok⟩ := h
  obtain ⟨ao, cap, rfl, hcap1, hcap2⟩ := hf.shape
  go_enter Tryz.func56, Tryz.ntmps56
  go_wp2_with fail
  obtain ⟨m, hm⟩ : ∃ m, m = d.files.length := ⟨_, rfl⟩
  have hm8 : m ≤ 8 := by rw [hm]; exact hok.few
  rw [← hm]
  have HF := Lib.hid hf
  have HM := Lib.hid hm
  have HK : Hid (Kp [] w.heap.size w (w.alloc (.cells #[.slice ao m cap, .int .i64 (d.room : Int), .bool d.fuse.isSome, .int .i64 left, .bool d.dead] 31))) := (Kp.refl _ _ _).alloc (Nat.le_refl _) _
  clear hf hl1 hok hm
  go_loop [5] (fun i => ∃ j : Nat, j ≤ m ∧ i = .int .i64 (j : Int) ∧ Hid (∀ k (hk : k < d.files.length), k < j → d.files[k].name ≠ s)) (fun i => m - (intOf i).toNat)
  case atStart => exact ⟨0, by omega, rfl, fun k hk h => absurd h (by omega)⟩
  case round =>
    obtain ⟨j, hj, rfl, HI⟩ := hrel
    by_cases hlt : j < m
    · have hjd : j < d.files.length := by rw [← HM.out]; exact hlt
      obtain ⟨g, vb, rfl, -, hg, c1, -, -, -⟩ := HF.out.at j hjd
      obtain ⟨nm, hnm⟩ : ∃ nm, nm = d.files[j].name := ⟨_, rfl⟩
      rw [← hnm] at c1
      by_cases hs : nm = s
      · subst hs
        have HFI : Hid (findI d.files nm = (j : Int)) := findI_at hjd hnm.symm (fun k hk h => HI.out k hk h)
        clear hnm
        go_wp2_with fail
        go_ret
        rw [HFI.out]
        exact ⟨rfl, HK.out⟩
      · have hbe : (nm == s) = false := by simpa using hs
        have HI2 : Hid (∀ k (hk : k < d.files.length), k < j + 1 → d.files[k].name ≠ s) := fun k hk h => by
          by_cases hkj : k = j
          · subst hkj; rw [← hnm]; exact hs
          · exact HI.out k hk (by omega)
        clear hnm
        go_wp2_with fail
        go_round
        case rel => exact ⟨j + 1, by omega, by go_num, HI2⟩
        case measure => simp [intOf]; omega
    · have HFI : Hid (findI d.files s = -1) := findI_none (fun k hk => HI.out k hk (by have := HM.out; omega))
      go_wp2_with fail
      go_ret
      rw [HFI.out]
      exact ⟨rfl, HK.out⟩
end Go.Proofs.YtdabflkejhoghaaGreat.Hand
