/- The reference's disk: put, Fuse, New. -/
import Derived.Below
import Derived.Deep.Draws
import Derived.Deep.AppendLies
import Derived.Maps.AppendAt
import Derived.OwnWalk
import Derived.Laws.BytesArg
import Derived.Laws.MakeOwn
import Derived.Laws.OwnMore
import Derived.Deep.OwnRows
import Derived.Tactics
import Derived.Lib.ConvBytes
import Derived.Laws.Slices
import Derived.WalkKit
import Derived.KernelRfl
import Derived.RowKit3
import Derived.Deep.LoopGhost
import Derived.Deep.QuietTactic
import Derived.BigQuiet
import Derived.WideLaws
import Derived.Deep.DeepCutAuto
import Derived.Deep.CutBlock
import Derived.Deep.RegionHeld3
import Derived.Laws.Rows
import Derived.Lib.AppendStr
import Derived.ArgAppend
import Derived.Laws.IdiomCopy
import Derived.OrdersHeld
import Derived.Laws.BitsLemmas
import Derived.RowKit
import Derived.Outline
import Derived.Maps.Own
import Derived.Maps.OwnOps
import Derived.Maps.OwnSet
import Derived.Maps.Views
import Derived.Maps.RangeWalk
import Derived.Maps.Ext
import Derived.RangeFuncOwn
import Derived.OneCell
import Derived.Deep.DeepMust
import Derived.Lib.Hide
import Derived.StillTailTactics
import Derived.Laws.AppendOwnNone
import Derived.WalkMore
import Derived.Lib.SlBytesConst
import Derived.WalkLawsBesides
import Derived.Laws.BitsAllLaws
import Derived.Test.YtdabflkejhoghaaGreatHRw
namespace Go.Proofs.YtdabflkejhoghaaGreat.Hand
open Go Go.RowKit Go.Maps Go.WideMaps
set_option linter.unusedVariables false
set_option linter.unusedSimpArgs false
theorem rput (d : Dk) (v : Value) (f : F) (fb : Value) (w : World) (h : IsT w v d) (hb : BytesV w (fun _ => True) fb f.b) (hok : Dk.Ok ⟨putBy F.name f d.files, d.room, d.fuse, d.dead⟩) :
    Calls Tryz.prog 75 #[v, .agg #[.string ⟨f.name.toArray⟩, fb, .int .i64 (f.lasts : Int)]] w fun e w' => ∃ v', e = .returned v' ∧ IsT w' v' ⟨putBy F.name f d.files, d.room, d.fuse, d.dead⟩ ∧ Kp [] w.heap.size w w' := by
  obtain ⟨fv, left, rfl, hf, hl1, hl2, hl3, hok0⟩ := h
  refine (rputO w w fv d.files _ _ _ _ f fb hf hok0.few hb).mono ?_
  rintro e w' ⟨fv', rfl, h1, h2⟩
  exact ⟨_, rfl, ⟨fv', left, rfl, h1.ref h2, hl1, hl2, hl3, hok⟩, h2⟩
theorem kp1 (w : World) (a : Obj) : Kp [] w.heap.size w (w.alloc a) := (Kp.refl _ _ _).alloc (Nat.le_refl _) a
set_option maxRecDepth 100000 in
theorem rFuse (d : Dk) (v : Value) (n : Int) (w : World) (h : IsT w v d) (hn : -9223372036854775808 ≤ n ∧ n ≤ 9223372036854775807) :
    Calls Tryz.prog 22 #[v, .int .i64 n] w fun e w' => ∃ v', e = .returned v' ∧ IsT w' v' (d.setFuse n) ∧ Kp [] w.heap.size w w' := by
  obtain ⟨fv, left, rfl, hf, hl1, hl2, hl3, hok⟩ := h
  obtain ⟨ao, cap, rfl, -, -⟩ := hf.shape
  have hok' := hok.setFuse n
  obtain ⟨files, room, fuse, dead⟩ := d
  obtain ⟨m, hm⟩ : ∃ m, m = files.length := ⟨_, rfl⟩
  have hf' : FilesR w 0 (.slice ao m cap) files := by rw [hm]; exact hf
  rw [← show m = (Dk.mk files room fuse dead).files.length from hm]
  clear hf hm
  obtain ⟨hn1, hn2⟩ := hn
  cases dead with
  | true =>
    have e : Dk.setFuse ⟨files, room, fuse, true⟩ n = ⟨files, room, fuse, true⟩ := by simp [Dk.setFuse]
    rw [e]
    have H : Hid (∀ w', Kp [] w.heap.size w w' → IsT w' (.agg #[.slice ao m cap, .int .i64 (room : Int), .bool fuse.isSome, .int .i64 left, .bool true]) ⟨files, room, fuse, true⟩) := fun w' hk => ⟨_, left, rfl, hf'.kp hk, hl1, hl2, hl3, hok⟩
    clear hf' hok hok' e hl1
    go_enter Tryz.func22, Tryz.ntmps22
    go_wp2_with fail
    (try simp only [Exit.inBlock, Exit.then])
    refine bodyPost_ret (YtdabflkejhoghaaGreat.HW.results_single rfl (.cell (w.heap.size + 1) 31 _ (0, 0) _ rfl (new_at _ _ _ (by simp)) Tryz.underlying31 rfl infoT .nil)) rfl ?_
    exact ⟨_, rfl, H.out _ (kp2 _ _ _), kp2 _ _ _⟩
  | false =>
    by_cases h0 : 0 ≤ n
    · have e : Dk.setFuse ⟨files, room, fuse, false⟩ n = ⟨files, room, some n.toNat, false⟩ := by simp [Dk.setFuse, h0]
      rw [e] at hok' ⊢
      have H : Hid (∀ w', Kp [] w.heap.size w w' → IsT w' (.agg #[.slice ao m cap, .int .i64 (room : Int), .bool true, .int .i64 n, .bool false]) ⟨files, room, some n.toNat, false⟩) := fun w' hk => ⟨_, n, rfl, hf'.kp hk, by intro k hk; injection hk with hk; omega, h0, hn2, hok'⟩
      have hmx : max n 0 = n := by omega
      have hd : decide (0 ≤ n) = true := decide_eq_true h0
      clear hf' hok hok' e hl1
      go_enter Tryz.func22, Tryz.ntmps22
      go_wp2_with fail
      (try simp only [Exit.inBlock, Exit.then])
      refine bodyPost_ret (YtdabflkejhoghaaGreat.HW.results_single rfl (.cell (w.heap.size + 1) 31 _ (0, 0) _ rfl (new_at _ _ _ (by simp)) Tryz.underlying31 rfl infoT .nil)) rfl ?_
      exact ⟨_, rfl, H.out _ (kp2 _ _ _), kp2 _ _ _⟩
    · have e : Dk.setFuse ⟨files, room, fuse, false⟩ n = ⟨files, room, none, false⟩ := by simp [Dk.setFuse, h0]
      rw [e] at hok' ⊢
      have H : Hid (∀ w', Kp [] w.heap.size w w' → IsT w' (.agg #[.slice ao m cap, .int .i64 (room : Int), .bool false, .int .i64 0, .bool false]) ⟨files, room, none, false⟩) := fun w' hk => ⟨_, 0, rfl, hf'.kp hk, by simp, by omega, by omega, hok'⟩
      have hmx : max n 0 = 0 := by omega
      have hd : decide (0 ≤ n) = false := decide_eq_false h0
      clear hf' hok hok' e hl1
      go_enter Tryz.func22, Tryz.ntmps22
      go_wp2_with fail
      (try simp only [Exit.inBlock, Exit.then])
      refine bodyPost_ret (YtdabflkejhoghaaGreat.HW.results_single rfl (.cell (w.heap.size + 1) 31 _ (0, 0) _ rfl (new_at _ _ _ (by simp)) Tryz.underlying31 rfl infoT .nil)) rfl ?_
      exact ⟨_, rfl, H.out _ (kp2 _ _ _), kp2 _ _ _⟩
set_option maxRecDepth 100000 in
theorem rNew (room : Int) (w : World) (hr : -9223372036854775808 ≤ room ∧ room ≤ 9223372036854775807) :
    Calls Tryz.prog 7 #[.int .i64 room] w fun e w' => ∃ v', e = .returned v' ∧ IsT w' v' (Dk.new room) ∧ Kp [] w.heap.size w w' := by
  obtain ⟨r, hre⟩ : ∃ r, r = (max 0 (min room 1048576)).toNat := ⟨_, rfl⟩
  have hr2 : max 0 (min room 1048576) = (r : Int) := by omega
  have hnew : Dk.new room = ⟨[], r, none, false⟩ := by rw [hre]; rfl
  have hok := Dk.Ok.new room
  rw [hnew] at hok ⊢
  have H : Hid (∀ w' : World, IsT w' (.agg #[.slice none 0 0, .int .i64 (r : Int), .bool false, .int .i64 0, .bool false]) ⟨[], r, none, false⟩) := fun w' => ⟨_, 0, rfl, (FilesO.nil w' w' 0), by simp, by omega, by omega, hok⟩
  clear hok hnew hre
  go_enter Tryz.func7, Tryz.ntmps7
  go_wp2_with fail
  (try simp only [Exit.inBlock, Exit.then])
  refine bodyPost_ret (YtdabflkejhoghaaGreat.HW.results_single rfl (.cell (w.heap.size) 31 _ (0, 0) _ rfl (new_at _ _ _ (by simp)) Tryz.underlying31 rfl infoT .nil)) rfl ?_
  exact ⟨_, rfl, H.out _, kp1 _ _⟩
end Go.Proofs.YtdabflkejhoghaaGreat.Hand
