/- The reference's disk: Used, name, step. -/
import Derived.Below
import Derived.Deep.Draws
import Derived.Deep.AppendLies
import Derived.Maps.AppendAt
import Derived.OwnWalk
import Derived.Laws.BytesArg
import Derived.Laws.MakeOwn
import Derived.Laws.OwnMore
import Derived.Deep.OwnRows
import Derived.Tactics
import Derived.Lib.ConvBytes
import Derived.Laws.Slices
import Derived.WalkKit
import Derived.KernelRfl
import Derived.RowKit3
import Derived.Deep.LoopGhost
import Derived.Deep.QuietTactic
import Derived.BigQuiet
import Derived.WideLaws
import Derived.Deep.DeepCutAuto
import Derived.Deep.CutBlock
import Derived.Deep.RegionHeld3
import Derived.Laws.Rows
import Derived.Lib.AppendStr
import Derived.ArgAppend
import Derived.Laws.IdiomCopy
import Derived.OrdersHeld
import Derived.Laws.BitsLemmas
import Derived.RowKit
import Derived.Outline
import Derived.Maps.Own
import Derived.Maps.OwnOps
import Derived.Maps.OwnSet
import Derived.Maps.Views
import Derived.Maps.RangeWalk
import Derived.Maps.Ext
import Derived.RangeFuncOwn
import Derived.OneCell
import Derived.Deep.DeepMust
import Derived.Lib.Hide
import Derived.StillTailTactics
import Derived.Laws.AppendOwnNone
import Derived.WalkMore
import Derived.Lib.SlBytesConst
import Derived.WalkLawsBesides
import Derived.Laws.BitsAllLaws
import Derived.Test.YtdabflkejhoghaaGreatHRt
import Derived.Test.YtdabflkejhoghaaGreatHWa
namespace Go.Proofs.YtdabflkejhoghaaGreat.Hand
open Go Go.RowKit Go.Maps Go.WideMaps
set_option linter.unusedVariables false
set_option linter.unusedSimpArgs false
theorem used_take (l : List F) (j : Nat) (hj : j < l.length) : used (l.take (j + 1)) = used (l.take j) + l[j].b.length := by
  rw [List.take_succ_eq_append_getElem hj, used_append]
  simp [used]
theorem used_take_le (l : List F) (j : Nat) : used (l.take j) ≤ used l := by
  have h : used l = used (l.take j) + used (l.drop j) := by rw [← used_append, List.take_append_drop]
  omega
set_option maxRecDepth 100000 in
theorem rUsed (d : Dk) (v : Value) (w : World) (h : IsT w v d) :
    Calls Tryz.prog 74 #[v] w fun e w' => e = .returned (.int .i64 (used d.files : Nat)) ∧ Kp [] w.heap.size w w' := by
  obtain ⟨fv, left, rfl, hf, hl1, hl2, hl3, hok⟩ := h
  obtain ⟨ao, cap, rfl, hcap1, hcap2⟩ := hf.shape
  go_enter Tryz.func74, Tryz.ntmps74
  go_wp2_with fail
  obtain ⟨m, hm⟩ : ∃ m, m = d.files.length := ⟨_, rfl⟩
  have hm8 : m ≤ 8 := by rw [hm]; exact hok.few
  have hU : used d.files ≤ 1048576 := Nat.le_trans hok.used hok.room
  rw [← hm]
  have HF := Lib.hid hf
  have HM := Lib.hid hm
  have HK : Hid (Kp [] w.heap.size w (w.alloc (.cells #[.slice ao m cap, .int .i64 (d.room : Int), .bool d.fuse.isSome, .int .i64 left, .bool d.dead] 31))) := (Kp.refl _ _ _).alloc (Nat.le_refl _) _
  clear hf hl1 hok hm
  go_loop [3, 4] (fun n i => ∃ j : Nat, j ≤ m ∧ n = .int .i64 ((used (d.files.take j) : Nat) : Int) ∧ i = .int .i64 (j : Int)) (fun _ i => m - (intOf i).toNat)
  case atStart => exact ⟨0, by omega, rfl, rfl⟩
  case round =>
    obtain ⟨j, hj, rfl, rfl⟩ := hrel
    by_cases hlt : j < m
    · have hjd : j < d.files.length := by rw [← HM.out]; exact hlt
      obtain ⟨g, vb, rfl, -, hg, -, c2, -, hvb⟩ := HF.out.at j hjd
      obtain ⟨ab, capb, rfl, -, -, -⟩ := hvb
      have hle := used_take_le d.files j
      have hle2 := used_take_le d.files (j + 1)
      have HT := Lib.hid (used_take d.files j hjd)
      have hlb : d.files[j].b.length ≤ 1048576 := by have := HT.out; omega
      have hsum : used (d.files.take j) + d.files[j].b.length ≤ 1048576 := by have := HT.out; omega
      clear hle2
      go_wp2_with fail
      go_round
      case rel => exact ⟨j + 1, by omega, by rw [HT.out]; go_num, by go_num⟩
      case measure => simp [intOf]; omega
    · have hjm : j = m := by omega
      subst hjm
      have HT : Hid (used (d.files.take j) = used d.files) := by rw [HM.out, List.take_length]; exact rfl
      go_wp2_with fail
      go_ret
      rw [HT.out]
      exact ⟨rfl, HK.out⟩
theorem rname (s : List UInt8) (w : World) (hl : s.length ≤ maxLen) : Calls Tryz.prog 73 #[.string ⟨s.toArray⟩] w fun e w' => e = .returned (.bool (named s)) ∧ w = w' := by
  by_cases h1 : 1 ≤ s.length
  · have hd : decide ((1 : Int) ≤ (s.length : Int)) = true := decide_eq_true (by omega)
    have hd1 : decide (1 ≤ s.length) = true := decide_eq_true h1
    have hz : (⟨s.toArray⟩ : ByteArray).size = s.length := by simp [ByteArray.size]
    unfold named
    rw [hd1]
    by_cases h2 : s.length ≤ 20
    · have he : decide ((s.length : Int) ≤ 20) = true := decide_eq_true (by omega)
      have he1 : decide (s.length ≤ 20) = true := decide_eq_true h2
      rw [he1]
      go_enter Tryz.func73, Tryz.ntmps73
      go_wp2_with fail
      go_ret
      simp
    · have he : decide ((s.length : Int) ≤ 20) = false := decide_eq_false (by omega)
      have he1 : decide (s.length ≤ 20) = false := decide_eq_false h2
      rw [he1]
      go_enter Tryz.func73, Tryz.ntmps73
      go_wp2_with fail
      go_ret
      simp
  · have h0 : s = [] := by cases s with | nil => rfl | cons a l => simp at h1
    subst h0
    go_enter Tryz.func73, Tryz.ntmps73
    go_wp2_with fail
    go_ret
    exact ⟨rfl, rfl⟩
theorem new_at (w : World) (o : Obj) (g : Nat) (h : g = w.heap.size) : (w.alloc o).heap[g]? = some o := by subst h; exact World.alloc_heap_new w o
theorem infoT : (Tryz.prog.info? 31).map (·.size) = some 5 := by kernel_rfl
theorem kp2 (w : World) (a b : Obj) : Kp [] w.heap.size w ((w.alloc a).alloc b) := ((Kp.refl _ _ _).alloc (Nat.le_refl _) a).alloc (by simp) b
set_option maxRecDepth 100000 in
theorem rstepO (d : Dk) (fv : Value) (left : Int) (w : World) (h : IsT w (.agg #[fv, .int .i64 (d.room : Int), .bool d.fuse.isSome, .int .i64 left, .bool d.dead]) d) :
    Calls Tryz.prog 69 #[.agg #[fv, .int .i64 (d.room : Int), .bool d.fuse.isSome, .int .i64 left, .bool d.dead]] w fun e w' => ∃ left', e = .returned (.tuple #[.agg #[fv, .int .i64 (d.step.1.room : Int), .bool d.step.1.fuse.isSome, .int .i64 left', .bool d.step.1.dead], .bool d.step.2]) ∧ (∀ w'', FilesR w'' 0 fv d.files → IsT w'' (.agg #[fv, .int .i64 (d.step.1.room : Int), .bool d.step.1.fuse.isSome, .int .i64 left', .bool d.step.1.dead]) d.step.1) ∧ Kp [] w.heap.size w w' := by
  obtain ⟨fv0, left0, heq, hf, hl1, hl2, hl3, hok⟩ := h
  obtain ⟨rfl, rfl⟩ : fv = fv0 ∧ left = left0 := by simpa using heq
  clear heq
  obtain ⟨ao, cap, rfl, hcap1, hcap2⟩ := hf.shape
  obtain ⟨files, room, fuse, dead⟩ := d
  obtain ⟨m, hm⟩ : ∃ m, m = files.length := ⟨_, rfl⟩
  have hf' : FilesR w 0 (.slice ao m cap) files := by rw [hm]; exact hf
  have hok' := hok.step
  rw [← show m = (Dk.mk files room fuse dead).files.length from hm]
  clear hf hcap1 hm
  cases dead with
  | true =>
    have e : Dk.step ⟨files, room, fuse, true⟩ = (⟨files, room, fuse, true⟩, false) := step_dead (.inl rfl)
    rw [e]
    have H : Hid (∀ w', FilesR w' 0 (.slice ao m cap) files → IsT w' (.agg #[.slice ao m cap, .int .i64 (room : Int), .bool fuse.isSome, .int .i64 left, .bool true]) ⟨files, room, fuse, true⟩) := fun w' hk => ⟨_, left, rfl, hk, hl1, hl2, hl3, hok⟩
    clear hf' hok hok' e hl1
    go_enter Tryz.func69, Tryz.ntmps69
    go_wp2_with fail
    (try simp only [Exit.inBlock, Exit.then])
    refine bodyPost_ret (YtdabflkejhoghaaGreat.HW.results_ct rfl _ _ (w.heap.size + 1) 31 _ (0, 0) _ rfl (new_at _ _ _ (by simp)) Tryz.underlying31 rfl infoT) rfl ?_
    exact ⟨_, rfl, H.out, kp2 _ _ _⟩
  | false =>
    cases fuse with
    | none =>
      have e : Dk.step ⟨files, room, none, false⟩ = (⟨files, room, none, false⟩, true) := step_live rfl (by simp)
      rw [e]
      have H : Hid (∀ w', FilesR w' 0 (.slice ao m cap) files → IsT w' (.agg #[.slice ao m cap, .int .i64 (room : Int), .bool false, .int .i64 left, .bool false]) ⟨files, room, none, false⟩) := fun w' hk => ⟨_, left, rfl, hk, hl1, hl2, hl3, hok⟩
      clear hf' hok hok' e hl1
      rw [show (none : Option Nat).isSome = false from rfl]
      go_enter Tryz.func69, Tryz.ntmps69
      go_wp2_with fail
      (try simp only [Exit.inBlock, Exit.then])
      refine bodyPost_ret (YtdabflkejhoghaaGreat.HW.results_ct rfl _ _ (w.heap.size + 1) 31 _ (0, 0) _ rfl (new_at _ _ _ (by simp)) Tryz.underlying31 rfl infoT) rfl ?_
      exact ⟨_, rfl, H.out, kp2 _ _ _⟩
    | some n =>
      rw [show (some n : Option Nat).isSome = true from rfl]
      have hln := hl1 n rfl
      cases n with
      | zero =>
        have e : Dk.step ⟨files, room, some 0, false⟩ = (⟨files, room, some 0, true⟩, false) := step_dead (.inr rfl)
        rw [e]
        rw [e] at hok'
        have H : Hid (∀ w', FilesR w' 0 (.slice ao m cap) files → IsT w' (.agg #[.slice ao m cap, .int .i64 (room : Int), .bool true, .int .i64 0, .bool true]) ⟨files, room, some 0, true⟩) := fun w' hk => ⟨_, 0, rfl, hk, by simp, by omega, by omega, hok'⟩
        rw [show left = 0 from hln]
        clear hf' hok hok' e hl1 hln
        go_enter Tryz.func69, Tryz.ntmps69
        go_wp2_with fail
        (try simp only [Exit.inBlock, Exit.then])
        refine bodyPost_ret (YtdabflkejhoghaaGreat.HW.results_ct rfl _ _ (w.heap.size + 1) 31 _ (0, 0) _ rfl (new_at _ _ _ (by simp)) Tryz.underlying31 rfl infoT) rfl ?_
        exact ⟨_, rfl, H.out, kp2 _ _ _⟩
      | succ n =>
        have e : Dk.step ⟨files, room, some (n + 1), false⟩ = (⟨files, room, some n, false⟩, true) := step_live rfl (by simp)
        rw [e]
        rw [e] at hok'
        have H : Hid (∀ w', FilesR w' 0 (.slice ao m cap) files → IsT w' (.agg #[.slice ao m cap, .int .i64 (room : Int), .bool true, .int .i64 (n : Int), .bool false]) ⟨files, room, some n, false⟩) := fun w' hk => ⟨_, (n : Int), rfl, hk, by simp, by omega, by omega, hok'⟩
        have hl4 : (n : Int) + 1 ≤ 9223372036854775807 := by omega
        rw [show left = (n : Int) + 1 by omega]
        have hd0 : ((n : Int) + 1 == 0) = false := by simp; omega
        clear hf' hok hok' e hl1 hln hl2 hl3
        go_enter Tryz.func69, Tryz.ntmps69
        go_wp2_with fail
        (try simp only [Exit.inBlock, Exit.then])
        refine bodyPost_ret (YtdabflkejhoghaaGreat.HW.results_ct rfl _ _ (w.heap.size + 1) 31 _ (0, 0) _ rfl (new_at _ _ _ (by simp)) Tryz.underlying31 rfl infoT) rfl ?_
        exact ⟨_, rfl, H.out, kp2 _ _ _⟩
theorem rstep (d : Dk) (v : Value) (w : World) (h : IsT w v d) :
    Calls Tryz.prog 69 #[v] w fun e w' => ∃ v', e = .returned (.tuple #[v', .bool d.step.2]) ∧ IsT w' v' d.step.1 ∧ Kp [] w.heap.size w w' := by
  have h0 := h
  obtain ⟨fv, left, rfl, hf, _⟩ := h
  refine (rstepO d fv left w h0).mono ?_
  rintro e w' ⟨left', rfl, h1, h2⟩
  exact ⟨_, rfl, h1 _ (hf.kp h2), h2⟩
end Go.Proofs.YtdabflkejhoghaaGreat.Hand
