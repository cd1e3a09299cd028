/- DiskCopy: the walk. -/
import Derived.Below
import Derived.Deep.Draws
import Derived.Deep.AppendLies
import Derived.Maps.AppendAt
import Derived.OwnWalk
import Derived.Laws.BytesArg
import Derived.Laws.MakeOwn
import Derived.Laws.OwnMore
import Derived.Deep.OwnRows
import Derived.Tactics
import Derived.Lib.ConvBytes
import Derived.Laws.Slices
import Derived.WalkKit
import Derived.KernelRfl
import Derived.RowKit3
import Derived.Deep.LoopGhost
import Derived.Deep.QuietTactic
import Derived.BigQuiet
import Derived.WideLaws
import Derived.Deep.DeepCutAuto
import Derived.Deep.CutBlock
import Derived.Deep.RegionHeld3
import Derived.Laws.Rows
import Derived.Lib.AppendStr
import Derived.ArgAppend
import Derived.Laws.IdiomCopy
import Derived.OrdersHeld
import Derived.Laws.BitsLemmas
import Derived.RowKit
import Derived.Outline
import Derived.Maps.Own
import Derived.Maps.OwnOps
import Derived.Maps.OwnSet
import Derived.Maps.Views
import Derived.Maps.RangeWalk
import Derived.Maps.Ext
import Derived.RangeFuncOwn
import Derived.OneCell
import Derived.Deep.DeepMust
import Derived.Lib.Hide
import Derived.StillTailTactics
import Derived.Laws.AppendOwnNone
import Derived.WalkMore
import Derived.Lib.SlBytesConst
import Derived.WalkLawsBesides
import Derived.Laws.BitsAllLaws
import Derived.Test.YtdabflkejhoghaaHWa
import Derived.Test.YtdabflkejhoghaaWLast
import Derived.Test.YtdabflkejhoghaaHSh
import Derived.Test.YtdabflkejhoghaaHSj
import Derived.Test.YtdabflkejhoghaaHSl
import Derived.Test.YtdabflkejhoghaaHSn
namespace Go.Proofs.Ytdabflkejhoghaa.Hand
open Go Go.RowKit Go.Maps Go.WideMaps Go.Proofs.Ytdabflkejhoghaa.HW Go.Proofs.YtdabflkejhoghaaW.PrintLast
set_option linter.unusedVariables false
set_option linter.unusedSimpArgs false
theorem i64_and31 (n : Int) : bits .and .i64 n 31 = n % 32 := by
  have h31 : (BitVec.ofInt 64 31).toNat = 2 ^ 5 - 1 := by decide
  have key : (BitVec.ofInt 64 n &&& BitVec.ofInt 64 31).toNat = (n % ((2 ^ 64 : Nat) : Int)).toNat % 2 ^ 5 := by
    rw [BitVec.toNat_and, BitVec.toNat_ofInt, h31, Nat.and_two_pow_sub_one_eq_mod]
  show IntKind.i64.wrap ((BitVec.ofInt 64 n &&& BitVec.ofInt 64 31).toNat : Nat) = n % 32
  rw [key, IntKind.wrap_i64]
  omega
theorem doN_range (K : Nat) {n : Int} (h : -9223372036854775808 ≤ n ∧ n ≤ 9223372036854775807) : -9223372036854775808 ≤ doN K n ∧ doN K n ≤ 9223372036854775807 := by
  unfold doN
  split
  · rw [i64_and31]; omega
  · exact h
def zz : List UInt8 := [122, 122]
/-- no file is named zz -/
def NoZ (d : Dk) : Prop := ∀ f ∈ d.files, f.name ≠ zz
theorem NoZ.step {d : Dk} (h : NoZ d) : NoZ d.step.1 := by unfold NoZ; rw [d.step_files]; exact h
theorem NoZ.put {d : Dk} (h : NoZ d) {f : F} {r : Nat} {fu : Option Nat} {de : Bool} (hf : f.name ≠ zz) : NoZ ⟨putBy F.name f d.files, r, fu, de⟩ := fun g hg => by
  rcases mem_putBy hg with rfl | hg
  · exact hf
  · exact h g hg
theorem NoZ.del {d : Dk} (h : NoZ d) {k : List UInt8} {r : Nat} {fu : Option Nat} {de : Bool} : NoZ ⟨delBy F.name k d.files, r, fu, de⟩ := fun g hg => h g (mem_delBy.1 hg).1
theorem NoZ.run {d : Dk} (h : NoZ d) (k : Nat) (a z : List UInt8) (n : Int) (b : List UInt8) (ha : a ≠ zz) (hz : z ≠ zz) : NoZ (d.run k a z n b).1 := by
  unfold Dk.run
  split
  · unfold Dk.append
    split
    · exact h
    · unfold Dk.appended
      exact h.put ha
  · split
    · unfold Dk.sync
      cases hl : d.look a with
      | none => exact h
      | some f =>
        simp only
        split
        · unfold Dk.synced
          exact h.step.put (by have := (Dk.look_mem hl).2; simpa [this] using ha)
        · exact h.step
    · split
      · unfold Dk.rename
        cases hl : d.look a with
        | none => exact h
        | some f =>
          simp only
          split
          · exact h
          · split
            · unfold Dk.moved
              exact NoZ.put (d := ⟨delBy F.name f.name d.step.1.files, d.step.1.room, d.step.1.fuse, d.step.1.dead⟩) h.step.del hz
            · exact h.step
      · split
        · unfold Dk.drop
          cases hl : d.look a with
          | none => exact h
          | some f =>
            simp only
            split
            · unfold Dk.dropped
              exact h.step.del
            · exact h.step
        · split
          · unfold Dk.setFuse
            split
            · exact h
            · exact h
          · exact fun f hf => by
              have hm : f.name ∈ (crashL n.toNat d.files).map F.name := List.mem_map_of_mem hf
              rw [crashL_names] at hm
              obtain ⟨g, hg, he⟩ := List.mem_map.1 hm
              rw [← he]
              exact h g hg
/-- what is read of zz behind a crash and an Append -/
theorem zz_read (d : Dk) (h : NoZ d) (b : List UInt8) : (((d.crash 0).append zz b).1.old zz).b = b ∨ (((d.crash 0).append zz b).1.old zz).b = [] := by
  have hz : NoZ (d.crash 0) := h.run 6 [] [] 0 [] (by decide) (by decide)
  have hn : (d.crash 0).look zz = none := lookBy_none.2 hz
  unfold Dk.append
  split
  · right
    unfold Dk.old
    rw [hn]; rfl
  · left
    have hb : (d.crash 0).burn b.length = b.length := rfl
    have hl : ((d.crash 0).appended zz b).look zz = some ⟨zz, ((d.crash 0).old zz).b ++ b.take ((d.crash 0).burn b.length), ((d.crash 0).old zz).lasts⟩ := look_put_same' rfl
    show (((d.crash 0).appended zz b).old zz).b = b
    unfold Dk.old at *
    rw [hl, hn, hb]
    simp
/-- the loop's: the program's disk, the reference's in its box -/
structure CopyI (W0 w : World) (A : Nat → Prop) (tb p mb : Nat) (d : Dk) : Prop where
  disk : IsDisk w A p mb d
  box : ∃ (ao : Option Addr) (n cap : Nat) (left : Int), w.heap[tb]? = some (.cells #[.slice ao n cap, .int .i64 (d.room : Int), .bool d.fuse.isSome, .int .i64 left, .bool d.dead] 59 (0, 0)) ∧ IsT w (.agg #[.slice ao n cap, .int .i64 (d.room : Int), .bool d.fuse.isSome, .int .i64 left, .bool d.dead]) d
  names : NoZ d
  kp : Kp [p, mb, tb] W0.heap.size W0 w
set_option maxHeartbeats 1600000 in
set_option maxRecDepth 100000 in
theorem copy_big (a0 a1 : Option Addr) (n0 c0 n1 c1 : Nat) (rs : List (Dd × Value)) (w : World) (h : DeedsV w a0 n0 c0 rs) (hl : n0 * 40 ≤ 140737488351232) (hn1 : n1 ≤ 140737488351232) (hbig : (decide (800 < weighs rs n0) || decide (100 < n1)) = true) :
    Calls Try.prog 11 #[.slice a0 n0 c0, .slice a1 n1 c1] w fun e w' => e = .returned (.bool true) ∧ Kp [] w.heap.size w w' := by
  have d1 : decide ((100 : Int) < (n1 : Int)) = decide (100 < n1) := decide_eq_decide.2 (by omega)
  go_enter Try.func11, Try.ntmps11
  go_wp2_with fail
  refine (lheavy a0 n0 c0 rs w h hl).mono ?_
  rintro e w1 ⟨rfl, rfl⟩
  cases hh : decide (800 < weighs rs n0) with
  | true =>
    clear hbig hh h
    go_wp2_with fail
    refine (lknown _).mono ?_
    rintro e w1 ⟨rfl, k1⟩
    go_wp2_with fail
    go_ret
    exact ⟨rfl, k1⟩
  | false =>
    rw [hh] at hbig
    have d2 : decide ((100 : Int) < (n1 : Int)) = true := by rw [d1]; simpa using hbig
    clear hbig hh h d1
    go_wp2_with fail
    refine (lknown _).mono ?_
    rintro e w1 ⟨rfl, k1⟩
    go_wp2_with fail
    go_ret
    exact ⟨rfl, k1⟩
set_option maxHeartbeats 8000000 in
set_option maxRecDepth 100000 in
theorem copy_small (a0 a1 : Option Addr) (n0 c0 n1 c1 : Nat) (rs : List (Dd × Value)) (b : List UInt8) (w : World) (h : DeedsV w a0 n0 c0 rs) (hl : n0 * 40 ≤ 140737488351232) (hb : BytesV w (fun k => k < w.heap.size) (.slice a1 n1 c1) b) (hsmall : (decide (800 < weighs rs n0) || decide (100 < n1)) = false) :
    Calls Try.prog 11 #[.slice a0 n0 c0, .slice a1 n1 c1] w fun e w' => e = .returned (.bool true) ∧ Kp [] w.heap.size w w' := by
  have HH := Lib.hid h
  have HL := Lib.hid h.1
  have HB := Lib.hid hb
  have hn1 := hb.cap.2
  have HN1 := Lib.hid hn1
  simp only [Bool.or_eq_false_iff] at hsmall
  obtain ⟨g1, g2⟩ := hsmall
  have h100 : n1 ≤ 100 := by simpa using g2
  have d2 : decide ((100 : Int) < (n1 : Int)) = false := decide_eq_false (by omega)
  clear h hb g2 hn1
  go_enter Try.func11, Try.ntmps11
  go_wp2_with fail
  refine (lheavy a0 n0 c0 rs w HH.out hl).mono ?_
  rintro e w1 ⟨rfl, rfl⟩
  rw [g1]
  clear g1
  go_wp2_with fail
  refine (dNew (fun _ => False) 5000 _ (by omega) ⟨id, id⟩).mono ?_
  rintro e w2 ⟨rfl, h2, k2⟩
  go_wp2_with fail
  refine (rNew 5000 w2 (by omega)).mono ?_
  rintro e w3 ⟨v3, rfl, h3, k3⟩
  obtain ⟨ao3, nf3, cap3, left3, rfl, -⟩ := h3.form
  have hlt2 := h2.lt
  have hz23 := k3.size
  have hk4 : Kp [] w3.heap.size w3 (w3.alloc (.cells #[.slice ao3 nf3 cap3, .int .i64 ((Dk.new 5000).room : Int), .bool (Dk.new 5000).fuse.isSome, .int .i64 left3, .bool (Dk.new 5000).dead] 59)) := kp1 _ _
  have hb4 := World.alloc_heap_new w3 (.cells #[.slice ao3 nf3 cap3, .int .i64 ((Dk.new 5000).room : Int), .bool (Dk.new 5000).fuse.isSome, .int .i64 left3, .bool (Dk.new 5000).dead] 59)
  have hz4 : (w3.alloc (.cells #[.slice ao3 nf3 cap3, .int .i64 ((Dk.new 5000).room : Int), .bool (Dk.new 5000).fuse.isSome, .int .i64 left3, .bool (Dk.new 5000).dead] 59)).heap.size = w3.heap.size + 1 := by simp
  go_upto_region 5 with fail
  obtain ⟨tb, htb⟩ : ∃ tb, tb = w3.heap.size := ⟨_, rfl⟩
  obtain ⟨mb, hmb⟩ : ∃ mb, mb = w1.heap.size := ⟨_, rfl⟩
  obtain ⟨W4, hW4⟩ : ∃ W4, W4 = (w3.alloc (.cells #[.slice ao3 nf3 cap3, .int .i64 ((Dk.new 5000).room : Int), .bool (Dk.new 5000).fuse.isSome, .int .i64 left3, .bool (Dk.new 5000).dead] 59)) := ⟨_, rfl⟩
  rw [← hW4] at hk4 hb4 hz4 ⊢
  rw [← htb] at hb4 hz4 ⊢
  rw [← hmb] at h2 hlt2 ⊢
  have hmt : mb + 1 < tb := by rw [htb]; omega
  have hI0 : CopyI W4 W4 (fun k => w2.heap.size ≤ k ∧ k ≠ tb) tb (mb + 1) mb (Dk.new 5000) :=
    ⟨((h2.kp_ge k3).kp_ge hk4).widen (fun _ h => h.elim) ⟨fun h => by omega, fun h => by omega⟩, ⟨ao3, nf3, cap3, left3, hb4, h3.kp hk4⟩, fun f hf => (by cases hf), Kp.refl _ _ _⟩
  have KS : Hid (Kp [] w1.heap.size w1 W4) := k2.trans ((k3.trans (hk4.mono (by simp) k3.size)).mono (by simp) k2.size)
  have hmw : w1.heap.size = mb := hmb.symm
  have HMW := Lib.hid hmw
  have HI0 := Lib.hid hI0
  have htw : tb < W4.heap.size := by omega
  have h2t : w2.heap.size ≤ tb := by rw [htb]; exact hz23
  clear hI0 h2 k2 h3 k3 hk4 hb4 hW4 htb hmb hmw
  obtain ⟨G2, hG2⟩ : ∃ G2, G2 = w2.heap.size := ⟨_, rfl⟩
  rw [← hG2] at HI0 hlt2 h2t
  clear hG2 hz23
  go_wp2_with fail
  go_loopw [7] (fun i wr => ∃ (k : Nat) (dk : Dk), k ≤ n0 ∧ i = .int .i64 (k : Int) ∧ Hid (CopyI W4 wr (fun k => G2 ≤ k ∧ k ≠ tb) tb (mb + 1) mb dk)) (fun i _ => n0 - (intOf i).toNat)
  case atStart => exact ⟨0, Dk.new 5000, by omega, rfl, HI0.out⟩
  case round =>
    obtain ⟨k, dk, hk, rfl, HI⟩ := hrel
    have HKr := Lib.hid HI.out.kp
    have hwrs : W4.heap.size ≤ wr.heap.size := HI.out.kp.size
    have HKW : Hid (Kp [] w1.heap.size w1 wr) := KS.out.trans (HI.out.kp.shed (B' := w1.heap.size) (by have := HMW.out; simp; omega) (by have := HMW.out; omega))
    obtain ⟨ao6, nf6, cap6, left6, hb6, ht6⟩ := HI.out.box
    have HB6 := Lib.hid hb6
    have HT6 := Lib.hid ht6
    have HDr := Lib.hid HI.out.disk
    have HNZ := Lib.hid HI.out.names
    by_cases hlt : k < n0
    · have hkL : k < rs.length := by rw [HL.out]; exact hlt
      obtain ⟨x, rfl, hx, hd⟩ := HH.out.at k hkL
      obtain ⟨r, hr⟩ : ∃ r, r = rs[k].1 := ⟨_, rfl⟩
      obtain ⟨bo, bc, hve, -, -, -⟩ := id hd.bytes
      have hdb := hd.bytes
      have hdc4 := hd.c4
      rw [hve, ← hr] at hdb hdc4
      have hdc0 := hd.c0; have hdc1 := hd.c1; have hdc2 := hd.c2; have hdc3 := hd.c3; have hdr := hd.rk; have hdn := hd.rn; have hds := hd.short
      rw [← hr] at hdc0 hdc1 hdc2 hdc3 hdr hdn hds
      have HDC : Hid (∀ W, Kp [] w1.heap.size w1 W → W.cell? (x.add (k * 5)) = some (.int .u8 (r.k : Int)) ∧ W.cell? ⟨(x.add (k * 5)).block, (x.add (k * 5)).off + 1, none⟩ = some (.int .u8 (r.a : Int)) ∧ W.cell? ⟨(x.add (k * 5)).block, (x.add (k * 5)).off + 2, none⟩ = some (.int .u8 (r.z : Int)) ∧ W.cell? ⟨(x.add (k * 5)).block, (x.add (k * 5)).off + 3, none⟩ = some (.int .i64 r.n) ∧ W.cell? ⟨(x.add (k * 5)).block, (x.add (k * 5)).off + 4, none⟩ = some (.slice bo r.b.length bc)) := fun W hK =>
        ⟨(hK.cell (p := x.add (k * 5)) hd.lt (by simp)).trans hdc0, (hK.cell (p := ⟨(x.add (k * 5)).block, (x.add (k * 5)).off + 1, none⟩) hd.lt (by simp)).trans hdc1, (hK.cell (p := ⟨(x.add (k * 5)).block, (x.add (k * 5)).off + 2, none⟩) hd.lt (by simp)).trans hdc2, (hK.cell (p := ⟨(x.add (k * 5)).block, (x.add (k * 5)).off + 3, none⟩) hd.lt (by simp)).trans hdc3, (hK.cell (p := ⟨(x.add (k * 5)).block, (x.add (k * 5)).off + 4, none⟩) hd.lt (by simp)).trans hdc4⟩
      have HBY := Lib.hid hdb
      have HSH := Lib.hid hds
      obtain ⟨kk, hkk⟩ : ∃ kk, kk = doKind (r.k % 8) := ⟨_, rfl⟩
      obtain ⟨nA, hnA⟩ : ∃ nA, nA = doName (r.a % 11) := ⟨_, rfl⟩
      obtain ⟨nZ, hnZ⟩ : ∃ nZ, nZ = doName (r.z % 11) := ⟨_, rfl⟩
      obtain ⟨nN, hnN⟩ : ∃ nN, nN = doN r.k r.n := ⟨_, rfl⟩
      have HKK : Hid (1 ≤ kk ∧ kk ≤ 6) := by show _ ∧ _; rw [hkk]; exact doKind_le _ (Nat.mod_lt _ (by decide))
      have HNA : Hid (nA.length ≤ maxLen ∧ nA ≠ zz) := by show _ ∧ _; rw [hnA]; exact ⟨Nat.le_trans (doName_len _ (Nat.mod_lt _ (by decide))) (by decide), doName_zz _ (Nat.mod_lt _ (by decide))⟩
      have HNZ2 : Hid (nZ.length ≤ maxLen ∧ nZ ≠ zz) := by show _ ∧ _; rw [hnZ]; exact ⟨Nat.le_trans (doName_len _ (Nat.mod_lt _ (by decide))) (by decide), doName_zz _ (Nat.mod_lt _ (by decide))⟩
      have HNN : Hid (-9223372036854775808 ≤ nN ∧ nN ≤ 9223372036854775807) := by show _ ∧ _; rw [hnN]; exact doN_range _ hdn
      have HDO : Hid (∀ W, Calls Try.prog 39 #[.agg #[.int .u8 (r.k : Int), .int .u8 (r.a : Int), .int .u8 (r.z : Int), .int .i64 r.n, .slice bo r.b.length bc]] W fun e w' => e = .returned (.agg #[.int .i64 (kk : Int), .string ⟨nA.toArray⟩, .string ⟨nZ.toArray⟩, .int .i64 nN, .slice bo r.b.length bc]) ∧ Kp [] W.heap.size W w') := fun W => by
        refine (ldo r.k r.a r.z r.n bo r.b.length bc W hdr.1 hdr.2.1 hdr.2.2 hdn).mono ?_
        rintro e w' ⟨rfl, k5⟩
        rw [← hkk, ← hnA, ← hnZ, ← hnN]
        exact ⟨rfl, k5⟩
      obtain ⟨D, hD⟩ : ∃ D, D = (dk.run kk nA nZ nN r.b).1 := ⟨_, rfl⟩
      obtain ⟨q, hq⟩ : ∃ q, q = (dk.run kk nA nZ nN r.b).2 := ⟨_, rfl⟩
      have HDq : Hid (D = (dk.run kk nA nZ nN r.b).1 ∧ q = (dk.run kk nA nZ nN r.b).2) := ⟨hD, hq⟩
      have HRN : Hid (∀ W, Kp [] wr.heap.size wr W → Calls Try.prog 38 #[.agg #[.slice ao6 nf6 cap6, .int .i64 (dk.room : Int), .bool dk.fuse.isSome, .int .i64 left6, .bool dk.dead], .agg #[.int .i64 (kk : Int), .string ⟨nA.toArray⟩, .string ⟨nZ.toArray⟩, .int .i64 nN, .slice bo r.b.length bc]] W fun e w' => ∃ ao9 n9 cap9 left9, e = .returned (.tuple #[.agg #[.slice ao9 n9 cap9, .int .i64 (D.room : Int), .bool D.fuse.isSome, .int .i64 left9, .bool D.dead], .bool q]) ∧ IsT w' (.agg #[.slice ao9 n9 cap9, .int .i64 (D.room : Int), .bool D.fuse.isSome, .int .i64 left9, .bool D.dead]) D ∧ Kp [] W.heap.size W w') := fun W hK => by
        refine (rRun dk _ kk nA nZ r.b nN _ W (HT6.out.kp hK) ((HBY.out.kp HKW.out (by simp)).kp hK (by simp)) HNA.out.1 HNZ2.out.1 (by have := HSH.out; omega) HNN.out HKK.out).mono ?_
        rintro e w9 ⟨v9, rfl, h9, k9⟩
        obtain ⟨ao9, n9, cap9, left9, rfl, -⟩ := h9.form
        rw [← HDq.out.1] at h9 ⊢
        rw [← HDq.out.2]
        exact ⟨ao9, n9, cap9, left9, rfl, h9, k9⟩
      have hkI : (k : Int) < (n0 : Int) := by omega
      have hk0 : (0 : Int) ≤ (k : Int) := by omega
      clear hve hd hdb hdc0 hdc1 hdc2 hdc3 hdc4 hdr hdn hds hr hkk hnA hnZ hnN hD hq hb6 ht6 HI
      go_upto_region 8 with fail
      go_cut [8, 9] from 29 to 52 (fun pg one wx => ∃ (g : Nat), pg = .pointer (some ⟨g, 0, none⟩) ∧ one = .bool q ∧ Hid (∃ ao9 n9 cap9 left9, wx.heap[g]? = some (.cells #[.slice ao9 n9 cap9, .int .i64 (D.room : Int), .bool D.fuse.isSome, .int .i64 left9, .bool D.dead] 59 (0, 0)) ∧ IsT wx (.agg #[.slice ao9 n9 cap9, .int .i64 (D.room : Int), .bool D.fuse.isSome, .int .i64 left9, .bool D.dead]) D ∧ Kp [] wr.heap.size wr wx))
      case first =>
        obtain ⟨t0, t1, t2, t3, t4⟩ := boxT HB6.out
        obtain ⟨e0, e1, e2, e3, e4⟩ := HDC.out wr HKW.out
        have hkz : Kp [] wr.heap.size wr wr.drew := (Kp.refl _ _ _).drew 1
        have htl : tb < wr.heap.size := by omega
        refine start_ (n := 13) (S := fun w' => w'.cell? ⟨tb, 0, none⟩ = some (.slice ao6 nf6 cap6) ∧ w'.cell? ⟨tb, 1, none⟩ = some (.int .i64 (dk.room : Int)) ∧ w'.cell? ⟨tb, 2, none⟩ = some (.bool dk.fuse.isSome) ∧ w'.cell? ⟨tb, 3, none⟩ = some (.int .i64 left6) ∧ w'.cell? ⟨tb, 4, none⟩ = some (.bool dk.dead) ∧ w'.cell? (x.add (k * 5)) = some (.int .u8 (r.k : Int)) ∧ w'.cell? ⟨(x.add (k * 5)).block, (x.add (k * 5)).off + 1, none⟩ = some (.int .u8 (r.a : Int)) ∧ w'.cell? ⟨(x.add (k * 5)).block, (x.add (k * 5)).off + 2, none⟩ = some (.int .u8 (r.z : Int)) ∧ w'.cell? ⟨(x.add (k * 5)).block, (x.add (k * 5)).off + 3, none⟩ = some (.int .i64 r.n) ∧ w'.cell? ⟨(x.add (k * 5)).block, (x.add (k * 5)).off + 4, none⟩ = some (.slice bo r.b.length bc) ∧ Kp [] wr.heap.size wr w') (ds := [11]) #[false, false, false, false, false, false, false, false, false, false, false, false, false] (by kernel_rfl) rfl rfl ⟨(by exact t0), (by exact t1), (by exact t2), (by exact t3), (by exact t4), (by exact e0), (by exact e1), (by exact e2), (by exact e3), (by exact e4), hkz⟩ (fun hHeld => ?_)
        refine pure_ (i := 1) (N := some 37) (v := ?_) (a' := ?_) #[false, true, false, false, false, false, false, false, false, false, false, false, false] rfl rfl (by kernel_rfl) (fun _ _ _ h => h) (Or.inl ⟨by rfl, ?_⟩) ?_ ?_
        rotate_left
        · intro w'
          go_simp
          with_reducible rfl
        rotate_left
        · simp only [Act.put, List.setIfInBounds_toArray, List.set_cons_zero, List.set_cons_succ, i64_w, i32_w]
          rfl
        refine pure_ (i := 2) (N := some 38) (v := ?_) (a' := ?_) #[false, true, true, false, false, false, false, false, false, false, false, false, false] rfl rfl (by kernel_rfl) (fun _ _ _ h => h) (Or.inl ⟨by rfl, ?_⟩) ?_ ?_
        rotate_left
        · intro w'
          go_simp
          with_reducible rfl
        rotate_left
        · simp only [Act.put, List.setIfInBounds_toArray, List.set_cons_zero, List.set_cons_succ, i64_w, i32_w]
          rfl
        refine pure_ (i := 3) (N := some 39) (v := ?_) (a' := ?_) #[false, true, true, true, false, false, false, false, false, false, false, false, false] rfl rfl (by kernel_rfl) (fun _ _ _ h => h) (Or.inl ⟨by rfl, ?_⟩) ?_ ?_
        rotate_left
        · intro w'
          go_simp
          with_reducible rfl
        rotate_left
        · simp only [Act.put, List.setIfInBounds_toArray, List.set_cons_zero, List.set_cons_succ, i64_w, i32_w]
          rfl
        refine take_ (i := 0) (N := some 36) (v := ?_) (a' := ?_) #[true, true, true, true, false, false, false, false, false, false, false, false, false] rfl rfl (by kernel_rfl) (fun _ _ _ h => h) (Or.inl ⟨by rfl, ?_⟩) hHeld ?_ ?_
        rotate_left
        · rintro w' ⟨s0, s1, s2, s3, s4, s5, s6, s7, s8, s9, s10⟩
          go_simp
          with_reducible rfl
        rotate_left
        · simp only [Act.put, List.setIfInBounds_toArray, List.set_cons_zero, List.set_cons_succ, i64_w, i32_w]
          rfl
        refine take_ (i := 4) (N := some 40) (v := ?_) (a' := ?_) #[true, true, true, true, true, false, false, false, false, false, false, false, false] rfl rfl (by kernel_rfl) (fun _ _ _ h => h) (Or.inl ⟨by rfl, ?_⟩) hHeld ?_ ?_
        rotate_left
        · rintro w' ⟨s0, s1, s2, s3, s4, s5, s6, s7, s8, s9, s10⟩
          go_simp
          with_reducible rfl
        rotate_left
        · simp only [Act.put, List.setIfInBounds_toArray, List.set_cons_zero, List.set_cons_succ, i64_w, i32_w]
          rfl
        refine join_ (σ := Nat × Option Addr × Nat × Nat × Int) 2 #[true, true, true, true, true, true, true, true, true, true, true, false, false] (fun s => [(41, .agg #[.int .i64 (kk : Int), .string ⟨nA.toArray⟩, .string ⟨nZ.toArray⟩, .int .i64 nN, .slice bo r.b.length bc]), (42, .tuple #[.agg #[.slice s.2.1 s.2.2.1 s.2.2.2.1, .int .i64 (D.room : Int), .bool D.fuse.isSome, .int .i64 s.2.2.2.2, .bool D.dead], .bool q]), (35, .tuple #[.agg #[.slice s.2.1 s.2.2.1 s.2.2.2.1, .int .i64 (D.room : Int), .bool D.fuse.isSome, .int .i64 s.2.2.2.2, .bool D.dead], .bool q]), (43, .agg #[.slice s.2.1 s.2.2.1 s.2.2.2.1, .int .i64 (D.room : Int), .bool D.fuse.isSome, .int .i64 s.2.2.2.2, .bool D.dead]), (44, .bool q), (8, .pointer (some ⟨s.1, 0, none⟩))]) (fun s w' => w'.heap[s.1]? = some (.cells #[.slice none 0 0, .int .i64 0, .bool false, .int .i64 0, .bool false] 59) ∧ IsT w' (.agg #[.slice s.2.1 s.2.2.1 s.2.2.2.1, .int .i64 (D.room : Int), .bool D.fuse.isSome, .int .i64 s.2.2.2.2, .bool D.dead]) D ∧ Kp [] wr.heap.size wr w' ∧ wr.heap.size ≤ s.1) ?_ ?_
        rotate_left
        · intro hCont
          refine two_ (i := 5) (j := 10) (Ni := some 41) (Nj := some 8) #[true, true, true, true, true, true, false, false, false, false, false, false, false] #[true, true, true, true, true, false, false, false, false, false, true, false, false] rfl rfl rfl rfl (by kernel_rfl) (by decide) (by decide) (fun K hK => ?_) (fun K hK => ?_)
          · skip
            refine goes_ Try.func39 (by kernel_rfl) rfl #[.agg #[.int .u8 (r.k : Int), .int .u8 (r.a : Int), .int .u8 (r.z : Int), .int .i64 r.n, .slice bo r.b.length bc]] (by rfl) rfl rfl (by simp only [List.map_toArray, List.map_cons, List.map_nil]; rfl) ?_
            with_reducible refine (HDO.out _).mono ?_
            rintro e w5 ⟨rfl, k5⟩
            refine ⟨_, rfl, ?_⟩
            have K5 := Lib.hid (hHeld.2.2.2.2.2.2.2.2.2.2.trans (k5.mono (by simp) hHeld.2.2.2.2.2.2.2.2.2.2.size))
            clear k5
            refine hK.out _ _ ⟨((K5.out.cell (p := ⟨tb, 0, none⟩) htl (by simp)).trans t0), ((K5.out.cell (p := ⟨tb, 1, none⟩) htl (by simp)).trans t1), ((K5.out.cell (p := ⟨tb, 2, none⟩) htl (by simp)).trans t2), ((K5.out.cell (p := ⟨tb, 3, none⟩) htl (by simp)).trans t3), ((K5.out.cell (p := ⟨tb, 4, none⟩) htl (by simp)).trans t4), (HDC.out _ (HKW.out.trans (K5.out.mono (by simp) HKW.out.size))).1, (HDC.out _ (HKW.out.trans (K5.out.mono (by simp) HKW.out.size))).2.1, (HDC.out _ (HKW.out.trans (K5.out.mono (by simp) HKW.out.size))).2.2.1, (HDC.out _ (HKW.out.trans (K5.out.mono (by simp) HKW.out.size))).2.2.2.1, (HDC.out _ (HKW.out.trans (K5.out.mono (by simp) HKW.out.size))).2.2.2.2, K5.out⟩ (fun hHeld => ?_)
            clear hK K
            refine norm_ (a' := ?_) ?_ ?_
            rotate_left
            · show Act.put _ (some 41) _ = _
              simp only [Act.put, List.setIfInBounds_toArray, List.set_cons_zero, List.set_cons_succ, i64_w, i32_w]
              rfl
            refine two_ (i := 6) (j := 10) (Ni := some 42) (Nj := some 8) #[true, true, true, true, true, true, true, false, false, false, false, false, false] #[true, true, true, true, true, true, false, false, false, false, true, false, false] rfl rfl rfl rfl (by kernel_rfl) (by decide) (by decide) (fun K hK => ?_) (fun K hK => ?_)
            · skip
              refine goes_ Try.func38 (by kernel_rfl) rfl #[.agg #[.slice ao6 nf6 cap6, .int .i64 (dk.room : Int), .bool dk.fuse.isSome, .int .i64 left6, .bool dk.dead], .agg #[.int .i64 (kk : Int), .string ⟨nA.toArray⟩, .string ⟨nZ.toArray⟩, .int .i64 nN, .slice bo r.b.length bc]] (by rfl) rfl rfl (by simp only [List.map_toArray, List.map_cons, List.map_nil]; rfl) ?_
              with_reducible refine (HRN.out _ hHeld.2.2.2.2.2.2.2.2.2.2).mono ?_
              rintro e w9 ⟨ao9, n9, cap9, left9, rfl, h9, k9⟩
              refine ⟨_, rfl, ?_⟩
              have HT9 := Lib.hid h9
              have K9 := Lib.hid (hHeld.2.2.2.2.2.2.2.2.2.2.trans (k9.mono (by simp) hHeld.2.2.2.2.2.2.2.2.2.2.size))
              clear h9 k9
              refine hK.out _ _ ⟨((K9.out.cell (p := ⟨tb, 0, none⟩) htl (by simp)).trans t0), ((K9.out.cell (p := ⟨tb, 1, none⟩) htl (by simp)).trans t1), ((K9.out.cell (p := ⟨tb, 2, none⟩) htl (by simp)).trans t2), ((K9.out.cell (p := ⟨tb, 3, none⟩) htl (by simp)).trans t3), ((K9.out.cell (p := ⟨tb, 4, none⟩) htl (by simp)).trans t4), (HDC.out _ (HKW.out.trans (K9.out.mono (by simp) HKW.out.size))).1, (HDC.out _ (HKW.out.trans (K9.out.mono (by simp) HKW.out.size))).2.1, (HDC.out _ (HKW.out.trans (K9.out.mono (by simp) HKW.out.size))).2.2.1, (HDC.out _ (HKW.out.trans (K9.out.mono (by simp) HKW.out.size))).2.2.2.1, (HDC.out _ (HKW.out.trans (K9.out.mono (by simp) HKW.out.size))).2.2.2.2, K9.out⟩ (fun hHeld => ?_)
              clear hK K
              refine norm_ (a' := ?_) ?_ ?_
              rotate_left
              · show Act.put _ (some 42) _ = _
                simp only [Act.put, List.setIfInBounds_toArray, List.set_cons_zero, List.set_cons_succ, i64_w, i32_w]
                rfl
              refine pure_ (i := 7) (N := some 35) (v := ?_) (a' := ?_) #[true, true, true, true, true, true, true, true, false, false, false, false, false] rfl rfl (by kernel_rfl) (fun _ _ _ h => h) (Or.inl ⟨by rfl, ?_⟩) ?_ ?_
              rotate_left
              · intro w'
                go_simp
                with_reducible rfl
              rotate_left
              · simp only [Act.put, List.setIfInBounds_toArray, List.set_cons_zero, List.set_cons_succ, i64_w, i32_w]
                rfl
              refine pure_ (i := 8) (N := some 43) (v := ?_) (a' := ?_) #[true, true, true, true, true, true, true, true, true, false, false, false, false] rfl rfl (by kernel_rfl) (fun _ _ _ h => h) (Or.inl ⟨by rfl, ?_⟩) ?_ ?_
              rotate_left
              · intro w'
                go_simp
                with_reducible rfl
              rotate_left
              · simp only [Act.put, List.setIfInBounds_toArray, List.set_cons_zero, List.set_cons_succ, i64_w, i32_w]
                rfl
              refine pure_ (i := 9) (N := some 44) (v := ?_) (a' := ?_) #[true, true, true, true, true, true, true, true, true, true, false, false, false] rfl rfl (by kernel_rfl) (fun _ _ _ h => h) (Or.inl ⟨by rfl, ?_⟩) ?_ ?_
              rotate_left
              · intro w'
                go_simp
                with_reducible rfl
              rotate_left
              · simp only [Act.put, List.setIfInBounds_toArray, List.set_cons_zero, List.set_cons_succ, i64_w, i32_w]
                rfl
              refine one_ (i := 10) (N := some 8) #[true, true, true, true, true, true, true, true, true, true, true, false, false] rfl rfl (by kernel_rfl) (by decide) (fun K hK => ?_)
              refine value_ (w1 := ?_) (v := ?_) (by rfl) rfl ?_ ?_
              rotate_left 2
              · go_simp
                constructor
                · rfl
                · rfl
              have KA := Lib.hid (K9.out.alloc K9.out.size (.cells #[.slice none 0 0, .int .i64 0, .bool false, .int .i64 0, .bool false] 59))
              have HZB := Lib.hid (World.alloc_heap_new w9 (.cells #[.slice none 0 0, .int .i64 0, .bool false, .int .i64 0, .bool false] 59))
              refine hK.out _ _ ⟨((KA.out.cell (p := ⟨tb, 0, none⟩) htl (by simp)).trans t0), ((KA.out.cell (p := ⟨tb, 1, none⟩) htl (by simp)).trans t1), ((KA.out.cell (p := ⟨tb, 2, none⟩) htl (by simp)).trans t2), ((KA.out.cell (p := ⟨tb, 3, none⟩) htl (by simp)).trans t3), ((KA.out.cell (p := ⟨tb, 4, none⟩) htl (by simp)).trans t4), (HDC.out _ (HKW.out.trans (KA.out.mono (by simp) HKW.out.size))).1, (HDC.out _ (HKW.out.trans (KA.out.mono (by simp) HKW.out.size))).2.1, (HDC.out _ (HKW.out.trans (KA.out.mono (by simp) HKW.out.size))).2.2.1, (HDC.out _ (HKW.out.trans (KA.out.mono (by simp) HKW.out.size))).2.2.2.1, (HDC.out _ (HKW.out.trans (KA.out.mono (by simp) HKW.out.size))).2.2.2.2, KA.out⟩ (fun hHeld => ?_)
              clear hK K
              refine norm_ (a' := ?_) ?_ ?_
              rotate_left
              · show Act.put _ (some 8) _ = _
                simp only [Act.put, List.setIfInBounds_toArray, List.set_cons_zero, List.set_cons_succ, i64_w, i32_w]
                rfl
              exact norm_ (by simp only [putAll, Act.put, List.setIfInBounds_toArray, List.set_cons_zero, List.set_cons_succ]) (hCont ⟨w9.heap.size, ao9, n9, cap9, left9⟩ _ ⟨HZB.out, HT9.out.kp (kp1 w9 _), KA.out, K9.out.size⟩)
            · skip
              refine value_ (w1 := ?_) (v := ?_) (by rfl) rfl ?_ ?_
              rotate_left 2
              · go_simp
                constructor
                · rfl
                · rfl
              have KA := Lib.hid (K5.out.alloc K5.out.size (.cells #[.slice none 0 0, .int .i64 0, .bool false, .int .i64 0, .bool false] 59))
              have HZB := Lib.hid (World.alloc_heap_new w5 (.cells #[.slice none 0 0, .int .i64 0, .bool false, .int .i64 0, .bool false] 59))
              refine hK.out _ _ ⟨((KA.out.cell (p := ⟨tb, 0, none⟩) htl (by simp)).trans t0), ((KA.out.cell (p := ⟨tb, 1, none⟩) htl (by simp)).trans t1), ((KA.out.cell (p := ⟨tb, 2, none⟩) htl (by simp)).trans t2), ((KA.out.cell (p := ⟨tb, 3, none⟩) htl (by simp)).trans t3), ((KA.out.cell (p := ⟨tb, 4, none⟩) htl (by simp)).trans t4), (HDC.out _ (HKW.out.trans (KA.out.mono (by simp) HKW.out.size))).1, (HDC.out _ (HKW.out.trans (KA.out.mono (by simp) HKW.out.size))).2.1, (HDC.out _ (HKW.out.trans (KA.out.mono (by simp) HKW.out.size))).2.2.1, (HDC.out _ (HKW.out.trans (KA.out.mono (by simp) HKW.out.size))).2.2.2.1, (HDC.out _ (HKW.out.trans (KA.out.mono (by simp) HKW.out.size))).2.2.2.2, KA.out⟩ (fun hHeld => ?_)
              clear hK K
              refine norm_ (a' := ?_) ?_ ?_
              rotate_left
              · show Act.put _ (some 8) _ = _
                simp only [Act.put, List.setIfInBounds_toArray, List.set_cons_zero, List.set_cons_succ, i64_w, i32_w]
                rfl
              refine one_ (i := 6) (N := some 42) #[true, true, true, true, true, true, true, false, false, false, true, false, false] rfl rfl (by kernel_rfl) (by decide) (fun K hK => ?_)
              refine goes_ Try.func38 (by kernel_rfl) rfl #[.agg #[.slice ao6 nf6 cap6, .int .i64 (dk.room : Int), .bool dk.fuse.isSome, .int .i64 left6, .bool dk.dead], .agg #[.int .i64 (kk : Int), .string ⟨nA.toArray⟩, .string ⟨nZ.toArray⟩, .int .i64 nN, .slice bo r.b.length bc]] (by rfl) rfl rfl (by simp only [List.map_toArray, List.map_cons, List.map_nil]; rfl) ?_
              with_reducible refine (HRN.out _ hHeld.2.2.2.2.2.2.2.2.2.2).mono ?_
              rintro e w9 ⟨ao9, n9, cap9, left9, rfl, h9, k9⟩
              refine ⟨_, rfl, ?_⟩
              have HT9 := Lib.hid h9
              have K9 := Lib.hid (hHeld.2.2.2.2.2.2.2.2.2.2.trans (k9.mono (by simp) hHeld.2.2.2.2.2.2.2.2.2.2.size))
              have HZB := Lib.hid ((k9.block w5.heap.size (Array.getElem?_eq_some_iff.1 HZB.out).1 (by simp)).trans HZB.out)
              clear h9 k9
              refine hK.out _ _ ⟨((K9.out.cell (p := ⟨tb, 0, none⟩) htl (by simp)).trans t0), ((K9.out.cell (p := ⟨tb, 1, none⟩) htl (by simp)).trans t1), ((K9.out.cell (p := ⟨tb, 2, none⟩) htl (by simp)).trans t2), ((K9.out.cell (p := ⟨tb, 3, none⟩) htl (by simp)).trans t3), ((K9.out.cell (p := ⟨tb, 4, none⟩) htl (by simp)).trans t4), (HDC.out _ (HKW.out.trans (K9.out.mono (by simp) HKW.out.size))).1, (HDC.out _ (HKW.out.trans (K9.out.mono (by simp) HKW.out.size))).2.1, (HDC.out _ (HKW.out.trans (K9.out.mono (by simp) HKW.out.size))).2.2.1, (HDC.out _ (HKW.out.trans (K9.out.mono (by simp) HKW.out.size))).2.2.2.1, (HDC.out _ (HKW.out.trans (K9.out.mono (by simp) HKW.out.size))).2.2.2.2, K9.out⟩ (fun hHeld => ?_)
              clear hK K
              refine norm_ (a' := ?_) ?_ ?_
              rotate_left
              · show Act.put _ (some 42) _ = _
                simp only [Act.put, List.setIfInBounds_toArray, List.set_cons_zero, List.set_cons_succ, i64_w, i32_w]
                rfl
              refine pure_ (i := 7) (N := some 35) (v := ?_) (a' := ?_) #[true, true, true, true, true, true, true, true, false, false, true, false, false] rfl rfl (by kernel_rfl) (fun _ _ _ h => h) (Or.inl ⟨by rfl, ?_⟩) ?_ ?_
              rotate_left
              · intro w'
                go_simp
                with_reducible rfl
              rotate_left
              · simp only [Act.put, List.setIfInBounds_toArray, List.set_cons_zero, List.set_cons_succ, i64_w, i32_w]
                rfl
              refine pure_ (i := 8) (N := some 43) (v := ?_) (a' := ?_) #[true, true, true, true, true, true, true, true, true, false, true, false, false] rfl rfl (by kernel_rfl) (fun _ _ _ h => h) (Or.inl ⟨by rfl, ?_⟩) ?_ ?_
              rotate_left
              · intro w'
                go_simp
                with_reducible rfl
              rotate_left
              · simp only [Act.put, List.setIfInBounds_toArray, List.set_cons_zero, List.set_cons_succ, i64_w, i32_w]
                rfl
              refine pure_ (i := 9) (N := some 44) (v := ?_) (a' := ?_) #[true, true, true, true, true, true, true, true, true, true, true, false, false] rfl rfl (by kernel_rfl) (fun _ _ _ h => h) (Or.inl ⟨by rfl, ?_⟩) ?_ ?_
              rotate_left
              · intro w'
                go_simp
                with_reducible rfl
              rotate_left
              · simp only [Act.put, List.setIfInBounds_toArray, List.set_cons_zero, List.set_cons_succ, i64_w, i32_w]
                rfl
              exact norm_ (by simp only [putAll, Act.put, List.setIfInBounds_toArray, List.set_cons_zero, List.set_cons_succ]) (hCont ⟨w5.heap.size, ao9, n9, cap9, left9⟩ _ ⟨HZB.out, HT9.out, K9.out, K5.out.size⟩)
          · skip
            refine value_ (w1 := ?_) (v := ?_) (by rfl) rfl ?_ ?_
            rotate_left 2
            · go_simp
              constructor
              · rfl
              · rfl
            have KA := Lib.hid ((kp1 wr (.cells #[.slice none 0 0, .int .i64 0, .bool false, .int .i64 0, .bool false] 59)).drew 1)
            have HZB := Lib.hid (World.alloc_heap_new wr (.cells #[.slice none 0 0, .int .i64 0, .bool false, .int .i64 0, .bool false] 59))
            refine hK.out _ _ ⟨((KA.out.cell (p := ⟨tb, 0, none⟩) htl (by simp)).trans t0), ((KA.out.cell (p := ⟨tb, 1, none⟩) htl (by simp)).trans t1), ((KA.out.cell (p := ⟨tb, 2, none⟩) htl (by simp)).trans t2), ((KA.out.cell (p := ⟨tb, 3, none⟩) htl (by simp)).trans t3), ((KA.out.cell (p := ⟨tb, 4, none⟩) htl (by simp)).trans t4), (HDC.out _ (HKW.out.trans (KA.out.mono (by simp) HKW.out.size))).1, (HDC.out _ (HKW.out.trans (KA.out.mono (by simp) HKW.out.size))).2.1, (HDC.out _ (HKW.out.trans (KA.out.mono (by simp) HKW.out.size))).2.2.1, (HDC.out _ (HKW.out.trans (KA.out.mono (by simp) HKW.out.size))).2.2.2.1, (HDC.out _ (HKW.out.trans (KA.out.mono (by simp) HKW.out.size))).2.2.2.2, KA.out⟩ (fun hHeld => ?_)
            clear hK K
            refine norm_ (a' := ?_) ?_ ?_
            rotate_left
            · show Act.put _ (some 8) _ = _
              simp only [Act.put, List.setIfInBounds_toArray, List.set_cons_zero, List.set_cons_succ, i64_w, i32_w]
              rfl
            refine one_ (i := 5) (N := some 41) #[true, true, true, true, true, true, false, false, false, false, true, false, false] rfl rfl (by kernel_rfl) (by decide) (fun K hK => ?_)
            refine goes_ Try.func39 (by kernel_rfl) rfl #[.agg #[.int .u8 (r.k : Int), .int .u8 (r.a : Int), .int .u8 (r.z : Int), .int .i64 r.n, .slice bo r.b.length bc]] (by rfl) rfl rfl (by simp only [List.map_toArray, List.map_cons, List.map_nil]; rfl) ?_
            with_reducible refine (HDO.out _).mono ?_
            rintro e w5 ⟨rfl, k5⟩
            refine ⟨_, rfl, ?_⟩
            have K5 := Lib.hid (hHeld.2.2.2.2.2.2.2.2.2.2.trans (k5.mono (by simp) hHeld.2.2.2.2.2.2.2.2.2.2.size))
            have HZB := Lib.hid ((k5.block wr.heap.size (Array.getElem?_eq_some_iff.1 HZB.out).1 (by simp)).trans HZB.out)
            clear k5
            refine hK.out _ _ ⟨((K5.out.cell (p := ⟨tb, 0, none⟩) htl (by simp)).trans t0), ((K5.out.cell (p := ⟨tb, 1, none⟩) htl (by simp)).trans t1), ((K5.out.cell (p := ⟨tb, 2, none⟩) htl (by simp)).trans t2), ((K5.out.cell (p := ⟨tb, 3, none⟩) htl (by simp)).trans t3), ((K5.out.cell (p := ⟨tb, 4, none⟩) htl (by simp)).trans t4), (HDC.out _ (HKW.out.trans (K5.out.mono (by simp) HKW.out.size))).1, (HDC.out _ (HKW.out.trans (K5.out.mono (by simp) HKW.out.size))).2.1, (HDC.out _ (HKW.out.trans (K5.out.mono (by simp) HKW.out.size))).2.2.1, (HDC.out _ (HKW.out.trans (K5.out.mono (by simp) HKW.out.size))).2.2.2.1, (HDC.out _ (HKW.out.trans (K5.out.mono (by simp) HKW.out.size))).2.2.2.2, K5.out⟩ (fun hHeld => ?_)
            clear hK K
            refine norm_ (a' := ?_) ?_ ?_
            rotate_left
            · show Act.put _ (some 41) _ = _
              simp only [Act.put, List.setIfInBounds_toArray, List.set_cons_zero, List.set_cons_succ, i64_w, i32_w]
              rfl
            refine one_ (i := 6) (N := some 42) #[true, true, true, true, true, true, true, false, false, false, true, false, false] rfl rfl (by kernel_rfl) (by decide) (fun K hK => ?_)
            refine goes_ Try.func38 (by kernel_rfl) rfl #[.agg #[.slice ao6 nf6 cap6, .int .i64 (dk.room : Int), .bool dk.fuse.isSome, .int .i64 left6, .bool dk.dead], .agg #[.int .i64 (kk : Int), .string ⟨nA.toArray⟩, .string ⟨nZ.toArray⟩, .int .i64 nN, .slice bo r.b.length bc]] (by rfl) rfl rfl (by simp only [List.map_toArray, List.map_cons, List.map_nil]; rfl) ?_
            with_reducible refine (HRN.out _ hHeld.2.2.2.2.2.2.2.2.2.2).mono ?_
            rintro e w9 ⟨ao9, n9, cap9, left9, rfl, h9, k9⟩
            refine ⟨_, rfl, ?_⟩
            have HT9 := Lib.hid h9
            have K9 := Lib.hid (hHeld.2.2.2.2.2.2.2.2.2.2.trans (k9.mono (by simp) hHeld.2.2.2.2.2.2.2.2.2.2.size))
            have HZB := Lib.hid ((k9.block wr.heap.size (Array.getElem?_eq_some_iff.1 HZB.out).1 (by simp)).trans HZB.out)
            clear h9 k9
            refine hK.out _ _ ⟨((K9.out.cell (p := ⟨tb, 0, none⟩) htl (by simp)).trans t0), ((K9.out.cell (p := ⟨tb, 1, none⟩) htl (by simp)).trans t1), ((K9.out.cell (p := ⟨tb, 2, none⟩) htl (by simp)).trans t2), ((K9.out.cell (p := ⟨tb, 3, none⟩) htl (by simp)).trans t3), ((K9.out.cell (p := ⟨tb, 4, none⟩) htl (by simp)).trans t4), (HDC.out _ (HKW.out.trans (K9.out.mono (by simp) HKW.out.size))).1, (HDC.out _ (HKW.out.trans (K9.out.mono (by simp) HKW.out.size))).2.1, (HDC.out _ (HKW.out.trans (K9.out.mono (by simp) HKW.out.size))).2.2.1, (HDC.out _ (HKW.out.trans (K9.out.mono (by simp) HKW.out.size))).2.2.2.1, (HDC.out _ (HKW.out.trans (K9.out.mono (by simp) HKW.out.size))).2.2.2.2, K9.out⟩ (fun hHeld => ?_)
            clear hK K
            refine norm_ (a' := ?_) ?_ ?_
            rotate_left
            · show Act.put _ (some 42) _ = _
              simp only [Act.put, List.setIfInBounds_toArray, List.set_cons_zero, List.set_cons_succ, i64_w, i32_w]
              rfl
            refine pure_ (i := 7) (N := some 35) (v := ?_) (a' := ?_) #[true, true, true, true, true, true, true, true, false, false, true, false, false] rfl rfl (by kernel_rfl) (fun _ _ _ h => h) (Or.inl ⟨by rfl, ?_⟩) ?_ ?_
            rotate_left
            · intro w'
              go_simp
              with_reducible rfl
            rotate_left
            · simp only [Act.put, List.setIfInBounds_toArray, List.set_cons_zero, List.set_cons_succ, i64_w, i32_w]
              rfl
            refine pure_ (i := 8) (N := some 43) (v := ?_) (a' := ?_) #[true, true, true, true, true, true, true, true, true, false, true, false, false] rfl rfl (by kernel_rfl) (fun _ _ _ h => h) (Or.inl ⟨by rfl, ?_⟩) ?_ ?_
            rotate_left
            · intro w'
              go_simp
              with_reducible rfl
            rotate_left
            · simp only [Act.put, List.setIfInBounds_toArray, List.set_cons_zero, List.set_cons_succ, i64_w, i32_w]
              rfl
            refine pure_ (i := 9) (N := some 44) (v := ?_) (a' := ?_) #[true, true, true, true, true, true, true, true, true, true, true, false, false] rfl rfl (by kernel_rfl) (fun _ _ _ h => h) (Or.inl ⟨by rfl, ?_⟩) ?_ ?_
            rotate_left
            · intro w'
              go_simp
              with_reducible rfl
            rotate_left
            · simp only [Act.put, List.setIfInBounds_toArray, List.set_cons_zero, List.set_cons_succ, i64_w, i32_w]
              rfl
            exact norm_ (by simp only [putAll, Act.put, List.setIfInBounds_toArray, List.set_cons_zero, List.set_cons_succ]) (hCont ⟨wr.heap.size, ao9, n9, cap9, left9⟩ _ ⟨HZB.out, HT9.out, K9.out, Nat.le_refl _⟩)
        rintro ⟨g9, ao9, n9, cap9, left9⟩ w9 ⟨hzb, h9, k9, hg9⟩
        simp only at hzb h9 hg9
        have HT9 := Lib.hid h9
        have K9 := Lib.hid k9
        have HZB := Lib.hid hzb
        obtain ⟨y0, y1, y2, y3, y4⟩ := boxT hzb
        have f0 : w9.frozen? ⟨g9, 0, none⟩ = false := Lib.frozen_of_heap hzb 0
        have f1 : w9.frozen? ⟨g9, 1, none⟩ = false := Lib.frozen_of_heap hzb 1
        have f2 : w9.frozen? ⟨g9, 2, none⟩ = false := Lib.frozen_of_heap hzb 2
        have f3 : w9.frozen? ⟨g9, 3, none⟩ = false := Lib.frozen_of_heap hzb 3
        have f4 : w9.frozen? ⟨g9, 4, none⟩ = false := Lib.frozen_of_heap hzb 4
        clear hzb h9 k9
        have hHeld : w9.cell? ⟨tb, 0, none⟩ = some (.slice ao6 nf6 cap6) ∧ w9.cell? ⟨tb, 1, none⟩ = some (.int .i64 (dk.room : Int)) ∧ w9.cell? ⟨tb, 2, none⟩ = some (.bool dk.fuse.isSome) ∧ w9.cell? ⟨tb, 3, none⟩ = some (.int .i64 left6) ∧ w9.cell? ⟨tb, 4, none⟩ = some (.bool dk.dead) ∧ w9.cell? (x.add (k * 5)) = some (.int .u8 (r.k : Int)) ∧ w9.cell? ⟨(x.add (k * 5)).block, (x.add (k * 5)).off + 1, none⟩ = some (.int .u8 (r.a : Int)) ∧ w9.cell? ⟨(x.add (k * 5)).block, (x.add (k * 5)).off + 2, none⟩ = some (.int .u8 (r.z : Int)) ∧ w9.cell? ⟨(x.add (k * 5)).block, (x.add (k * 5)).off + 3, none⟩ = some (.int .i64 r.n) ∧ w9.cell? ⟨(x.add (k * 5)).block, (x.add (k * 5)).off + 4, none⟩ = some (.slice bo r.b.length bc) ∧ Kp [] wr.heap.size wr w9 := ⟨((K9.out.cell (p := ⟨tb, 0, none⟩) htl (by simp)).trans t0), ((K9.out.cell (p := ⟨tb, 1, none⟩) htl (by simp)).trans t1), ((K9.out.cell (p := ⟨tb, 2, none⟩) htl (by simp)).trans t2), ((K9.out.cell (p := ⟨tb, 3, none⟩) htl (by simp)).trans t3), ((K9.out.cell (p := ⟨tb, 4, none⟩) htl (by simp)).trans t4), (HDC.out _ (HKW.out.trans (K9.out.mono (by simp) HKW.out.size))).1, (HDC.out _ (HKW.out.trans (K9.out.mono (by simp) HKW.out.size))).2.1, (HDC.out _ (HKW.out.trans (K9.out.mono (by simp) HKW.out.size))).2.2.1, (HDC.out _ (HKW.out.trans (K9.out.mono (by simp) HKW.out.size))).2.2.2.1, (HDC.out _ (HKW.out.trans (K9.out.mono (by simp) HKW.out.size))).2.2.2.2, K9.out⟩
        refine norm_ (a' := ?_) ?_ ?_
        rotate_left
        · simp only [putAll, Act.put, List.setIfInBounds_toArray, List.set_cons_zero, List.set_cons_succ]
          rfl
        refine last_ (i := 11) (N := none) #[true, true, true, true, true, true, true, true, true, true, true, true, false] rfl rfl (by kernel_rfl) (by decide) (fun K hK => ?_)
        refine skip_ (w1 := ?_) (by rfl) rfl ?_ ?_
        rotate_left
        · go_simp
          rfl
        refine hK.out _ _ ?_
        clear hK K
        refine pure_ (i := 12) (N := some 9) (v := ?_) (a' := ?_) #[true, true, true, true, true, true, true, true, true, true, true, true, true] rfl rfl (by kernel_rfl) (fun _ _ _ h => h) (Or.inl ⟨by rfl, ?_⟩) ?_ ?_
        rotate_left
        · intro w'
          go_simp
          with_reducible rfl
        rotate_left
        · simp only [Act.put, List.setIfInBounds_toArray, List.set_cons_zero, List.set_cons_succ, i64_w, i32_w]
          rfl
        refine done_ (by kernel_rfl) ?_

        go_wp2
        go_meet
        have hzb := HZB.out
        have kl := set5_kp w9 g9 (.slice ao9 n9 cap9) (.int .i64 (D.room : Int)) (.bool D.fuse.isSome) (.int .i64 left9) (.bool D.dead)
        have hb := set5b hzb (.slice ao9 n9 cap9) (.int .i64 (D.room : Int)) (.bool D.fuse.isSome) (.int .i64 left9) (.bool D.dead)
        have ht := HT9.out.shun hzb (by decide) (noU8_T _ _ _ _ _ _ _) kl
        have k2 := K9.out.trans (kl.shed (B' := wr.heap.size) (by simp; omega) K9.out.size)
        exact ⟨_, rfl, rfl, ao9, n9, cap9, left9, hb, ht, k2⟩
      case rest =>
        obtain ⟨g9, rfl, rfl, hcut9⟩ := hcut
        obtain ⟨ao9, n9, cap9, left9, hb9, ht9, k9⟩ := hcut9.out
        have HG9 := Lib.hid hb9
        have HT9 := Lib.hid ht9
        have HTB9 := Lib.hid ((k9.block tb (by omega) (by simp)).trans HB6.out)
        have HD9 := Lib.hid (HDr.out.kp_ge k9)
        have HK9 := Lib.hid (HKr.out.trans (k9.mono (by simp) hwrs))
        have hwc9 : wr.heap.size ≤ wc.heap.size := k9.size
        clear hcut9 hb9 ht9 k9 HRN HB6 HT6 HDr HKr
        go_upto_region 10 with (first | (refine wpList_ldT rfl _ rfl _ _ rfl HG9.out rfl ?_) | (refine wpList_stT rfl _ _ rfl _ _ _ _ _ _ _ rfl rfl HTB9.out rfl ⟨rfl, rfl, rfl, rfl, rfl⟩ ?_; intro w10 hg10 k10 z10))
        have HT10 := Lib.hid (HT9.out.shun HTB9.out (by decide) (noU8_T _ _ _ _ _ _ _) k10)
        have HD10 := Lib.hid (HD9.out.kp k10 (Nat.le_refl _) (by intro j hj; have hjt : j = tb := (by simpa using hj); rw [hjt]; exact ⟨fun h => h.2 rfl, by omega, by omega⟩))
        have HK10 := Lib.hid (HK9.out.trans (k10.mono (by simp) (by omega)))
        have HG10 := Lib.hid hg10
        have hz10 : wr.heap.size ≤ w10.heap.size := by omega
        have HKW10 : Hid (Kp [] w1.heap.size w1 w10) := KS.out.trans (HK10.out.shed (B' := w1.heap.size) (by have := HMW.out; simp; omega) (by have := HMW.out; omega))
        obtain ⟨e0, e1, e2, e3, e4⟩ := HDC.out w10 HKW10.out
        clear hg10 k10 z10 HG9 HT9 HTB9 HD9 HK9
        go_wp2_with fail
        refine (HDO.out _).mono ?_
        rintro e w11 ⟨rfl, k11⟩
        have HT11 := Lib.hid (HT10.out.kp k11)
        have HD11 := Lib.hid (HD10.out.kp_ge k11)
        have HK11 := Lib.hid (HK10.out.trans (k11.mono (by simp) (by omega)))
        have HKW11 := Lib.hid (HKW10.out.trans (k11.mono (by simp) HKW10.out.size))
        have hz11 : w10.heap.size ≤ w11.heap.size := k11.size
        have HG11 := Lib.hid ((k11.block tb (by omega) (by simp)).trans HG10.out)
        clear k11 e0 e1 e2 e3 e4 HT10 HD10 HK10 HG10 HKW10
        go_wp2_with fail
        refine (lrun _ _ _ dk (fun k => k < w1.heap.size) kk nA nZ r.b nN _ w11 HD11.out (HBY.out.kp HKW11.out (by simp)) (by have := HMW.out; omega) HNA.out.1 HNZ2.out.1 (by have := HSH.out; omega) HNN.out HKK.out (fun j hj => ⟨by omega, by omega⟩) (fun j hj => by have := HKW11.out.size; omega)).mono ?_
        rintro e w12 ⟨rfl, h12, k12⟩
        rw [← HDq.out.1] at h12
        have HI12 : Hid (CopyI W4 w12 (fun k => G2 ≤ k ∧ k ≠ tb) tb (mb + 1) mb D) := ⟨h12, ⟨ao9, n9, cap9, left9, (k12.block tb (by omega) (by simp; omega)).trans HG11.out, HT11.out.shy HD11.out.shy k12⟩, by rw [HDq.out.1]; exact HNZ.out.run _ _ _ _ _ HNA.out.2 HNZ2.out.2, HK11.out.trans (k12.mono (by simp) (by omega))⟩
        clear h12 k12 HT11 HD11 HK11 HG11 HKW11
        go_wp2_with fail
        go_roundw
        case rel => exact ⟨k + 1, D, by omega, by go_num, HI12.out⟩
        case measure => simp [intOf]; omega
    · clear HI HKr
      go_wp2_with fail
      refine (dCopy _ _ _ dk wr HDr.out).mono ?_
      rintro e w5 ⟨rfl, k5, hd5, hc5⟩
      obtain ⟨CB, hCB⟩ : ∃ CB, CB = wr.heap.size := ⟨_, rfl⟩
      have hc := hc5 (fun k => G2 ≤ k ∧ k ≠ tb ∧ k < wr.heap.size) (fun k hk hA => ⟨hA.1, hA.2, hk⟩) (fun h => by have := h.2.2; omega) (fun h => by have := h.2.2; omega)
      rw [← hCB] at hc ⊢
      have hcl := hc.lt
      have HC5 := Lib.hid hc
      have HD5 := Lib.hid hd5
      have HT5 := Lib.hid (HT6.out.kp k5)
      have HB5 := Lib.hid ((k5.block tb (by omega) (by simp)).trans HB6.out)
      have HK5 := Lib.hid (HKW.out.trans (k5.mono (by simp) HKW.out.size))
      have hcb2 : W4.heap.size ≤ CB := by omega
      clear k5 hd5 hc5 hc HDr HB6 HT6 HKW hCB
      go_wp2_with fail
      refine (dCrash _ _ _ dk 0 w5 HD5.out (by omega)).mono ?_
      rintro e w6 ⟨rfl, h6, k6⟩
      have HD6 := Lib.hid h6
      have HT6 := Lib.hid (HT5.out.shy HD5.out.shy k6)
      have HB6 := Lib.hid ((k6.block tb (by omega) (by simp; omega)).trans HB5.out)
      have HC6 := Lib.hid (HC5.out.kp k6 (Nat.le_refl _) (by intro j hj; simp at hj; rcases hj with rfl | rfl <;> exact ⟨fun h => by have := h.1; omega, by omega, by omega⟩))
      have HK6 : Hid (Kp [] w1.heap.size w1 w6) := HK5.out.trans (k6.shed (B' := w1.heap.size) (by have := HMW.out; simp; omega) (by have := HMW.out; omega))
      have hz6 := k6.size
      have HBw6 := Lib.hid (HB.out.kp HK6.out (by simp))
      clear h6 k6 HD5 HT5 HB5 HC5 HK5
      go_upto_region 15 with (at_builtin; go_must (refine wpList_appB rfl _ _ rfl w6.heap.size (.slice none 0 0) 0 [] rfl ⟨rfl, .inl ⟨rfl, rfl⟩⟩ rfl HBw6.out (by have := HN1.out; omega) (Nat.le_refl _) ?_; intro v7 w7 h7 g7))
      rw [List.nil_append, Nat.zero_add, ← HN1.out] at h7
      have k7 : Kp [] w6.heap.size w6 w7 := kp_grown g7 (by simp [Value.ownBlock]) (Nat.le_refl _)
      obtain ⟨o7, m7, c7, rfl, hn7⟩ := own_shape h7
      obtain rfl : n1 = m7 := hn7.out.symm
      obtain ⟨X0, hX0⟩ : ∃ X0, X0 = w6.heap.size := ⟨_, rfl⟩
      obtain ⟨X1, hX1⟩ : ∃ X1, X1 = w7.heap.size := ⟨_, rfl⟩
      have hX01 : X0 ≤ X1 := by rw [hX0, hX1]; exact k7.size
      have h67 : IsDisk w6 (fun k => (G2 ≤ k ∧ k ≠ tb) ∧ (k < X0 ∨ X1 ≤ k)) (mb + 1) mb (dk.crash 0) := HD6.out.mono (Nat.le_refl _) rfl rfl (fun j ha hl => ⟨⟨ha, .inl (by omega)⟩, rfl⟩) ⟨fun h => by have := h.1.1; omega, fun h => by have := h.1.1; omega⟩
      have HD7 := Lib.hid (h67.kp_ge k7)
      rw [← hX0] at h7
      have HX7 := Lib.hid h7
      have HGX : Hid (∀ a, o7 = some a → ∃ g, a = ⟨g, 0, none⟩ ∧ X0 ≤ g ∧ g < X1) := fun a ha => by
        rcases h7.2 with ⟨hv, _⟩ | ⟨g, cap', cur, hv, hg, hbk, _⟩
        · injection hv with e1; rw [ha] at e1; cases e1
        · injection hv with e1; rw [ha] at e1; injection e1 with e1; exact ⟨g, e1, hg, by rw [hX1]; exact (Array.getElem?_eq_some_iff.1 hbk).1⟩
      have HK67 := Lib.hid k7
      have HX0 := Lib.hid hX0
      have HX1 := Lib.hid hX1
      have hX0w : X0 = w6.heap.size := hX0
      clear h67 h7 g7 k7 hX0 hX1 HBw6 hn7
      go_wp2_with fail
      refine (dAppend _ _ _ (dk.crash 0) zz b (fun k => X0 ≤ k) _ w7 HD7.out (by decide) (own_bytes HX7.out) (by omega) (by have := HN1.out; omega) (fun j hj => ⟨⟨by have := HX1.out; omega, by have := HX1.out; omega⟩, .inr (by have := HX1.out; omega)⟩)).mono ?_
      rintro e w8 ⟨rfl, h8, k8⟩
      obtain ⟨D2, hD2⟩ : ∃ D2, D2 = ((dk.crash 0).append zz b).1 := ⟨_, rfl⟩
      rw [← hD2] at h8
      have HYB : Hid ((D2.old zz).b = b ∨ (D2.old zz).b = []) := by show _ ∨ _; rw [hD2]; exact zz_read dk HNZ.out b
      have HD8 := Lib.hid h8
      have HX8 := Lib.hid (own_kpL HX7.out k8 (by simp; omega))
      have HK68 : Hid (Kp [mb + 1, mb] X0 w6 w8) := by rw [HX0.out]; exact (HK67.out.mono (by simp) (Nat.le_refl _)).trans (k8.mono (by simp) HK67.out.size)
      have hz8 : X1 ≤ w8.heap.size := by rw [HX1.out]; exact k8.size
      clear h8 k8 hD2 HD7 HX7 HK67
      obtain ⟨LX, hLX⟩ : ∃ LX, LX = (o7.map (·.block)).toList := ⟨_, rfl⟩
      have HLX : Hid (∀ j ∈ LX, X0 ≤ j ∧ j < X1) := fun j hj => by
        rw [hLX] at hj
        cases o7 with
        | none => simp at hj
        | some a => obtain ⟨g, rfl, h1, h2⟩ := HGX.out a rfl; simp at hj; subst hj; exact ⟨h1, h2⟩
      have HLM : Hid (∀ a, o7 = some a → a.block ∈ LX) := fun a ha => by rw [hLX, ha]; simp
      clear hLX
      go_wp2_with fail
      go_loopw [12] (fun i wq => ∃ (j : Nat) (xs : List UInt8), j ≤ n1 ∧ i = .int .i64 (j : Int) ∧ Hid (xs.length = n1) ∧ Hid (wq.ownsRow X0 5 1 (.slice o7 n1 c7) n1 (bcells xs)) ∧ Hid (Kp LX w8.heap.size w8 wq)) (fun i _ => n1 - (intOf i).toNat)
      case atStart => exact ⟨0, b, by omega, rfl, HN1.out.symm, HX8.out, Kp.refl _ _ _⟩
      case round =>
        obtain ⟨j, xs, hj, rfl, HXL, HXQ, HKQ⟩ := hrel
        by_cases hlt : j < n1
        · obtain ⟨g, rfl⟩ : ∃ g, o7 = some ⟨g, 0, none⟩ := by
            rcases HXQ.out.2 with ⟨_, hv⟩ | ⟨g, cap', cur, hv, _⟩
            · omega
            · injection hv with e1; exact ⟨g, e1⟩
          have hjx : j < xs.length := by have := HXL.out; omega
          obtain ⟨c, hc⟩ : ∃ c, c = xs[j] := ⟨_, rfl⟩
          obtain ⟨hcell, hfz⟩ := own_cell HXQ.out j (by rw [bcells_len]; exact hjx)
          have hce : (bcells xs)[j]'(by rw [bcells_len]; exact hjx) = .int .u8 (c.toNat : Int) := by rw [hc]; simp [bcells]
          rw [hce] at hcell
          obtain ⟨c', hc'⟩ : ∃ c' : UInt8, ((c.toNat : Int) + 1) % 256 = (c'.toNat : Int) := ⟨c + 1, by rw [UInt8.toNat_add]; simp⟩
          have hw1 : IntKind.u8.wrap ((c.toNat : Int) + 1) = (c'.toNat : Int) := by rw [IntKind.wrap_u8']; exact hc'
          have hjI : (j : Int) < (n1 : Int) := by omega
          have hj0 : (0 : Int) ≤ (j : Int) := by omega
          have HW1 := Lib.hid (own_setB HXQ.out j hjx c')
          have HW2 := Lib.hid (HKQ.out.setCell (b := g) (.inr (HLM.out _ rfl)) j none (.int .u8 (c'.toNat : Int)))
          clear hc hce hc'
          go_wp2
          go_roundw
          case rel => exact ⟨j + 1, xs.set j c', by omega, by go_num, by show (xs.set j c').length = n1; rw [List.length_set]; exact HXL.out, HW1.out, HW2.out⟩
          case measure => simp [intOf]; omega
        · obtain ⟨wq, rfl⟩ : ∃ wq, wq = wr := ⟨_, rfl⟩
          have HDq := Lib.hid (HD8.out.kp HKQ.out (Nat.le_refl _) (by intro r hr; have h := HLX.out r hr; exact ⟨fun h2 => by rcases h2.2 with h3 | h3 <;> omega, by omega, by omega⟩))
          have HK6q : Hid (Kp [mb + 1, mb] X0 w6 wq) := HK68.out.trans ((HKQ.out.shed (B' := X0) (fun r hr => (HLX.out r hr).1) (by omega)).mono (by simp) (Nat.le_refl _))
          have hk6q : Kp [mb + 1, mb] w6.heap.size w6 wq := by rw [← hX0w]; exact HK6q.out
          have HTq := Lib.hid (HT6.out.shy HD6.out.shy hk6q)
          have HBq := Lib.hid ((hk6q.block tb (by omega) (by simp; omega)).trans HB6.out)
          have HCq := Lib.hid (HC6.out.kp hk6q (Nat.le_refl _) (by intro r hr; simp at hr; rcases hr with rfl | rfl <;> exact ⟨fun h => by have := h.1; omega, by omega, by omega⟩))
          have HKWq : Hid (Kp [] w1.heap.size w1 wq) := HK6.out.trans (hk6q.shed (B' := w1.heap.size) (by have := HMW.out; simp; omega) (by have := HMW.out; omega))
          have hzq : w8.heap.size ≤ wq.heap.size := HKQ.out.size
          clear HK6q hk6q HKQ HXQ HXL HT6 HD6 HB6 HC6 HK6 HD8 HX8 HK68
          go_wp2_with fail
          refine (dRead _ _ _ D2 zz wq HDq.out (by decide)).mono ?_
          rintro e wy ⟨vy, rfl, hy, ky⟩
          obtain ⟨Y, hY⟩ : ∃ Y, Y = (D2.old zz).b := ⟨_, rfl⟩
          rw [← hY] at hy HYB
          obtain ⟨th, hth⟩ : ∃ th, th = D2.there zz := ⟨_, rfl⟩
          rw [← hth]
          have HYE := Lib.hid hY
          have HTE := Lib.hid hth
          clear hY hth
          obtain ⟨oy, yl, cy, rfl, hny⟩ := own_shape hy
          have hyl : Y.length = yl := hny.out.symm
          rw [hyl] at hy
          have HYL := Lib.hid hyl
          have HYy := Lib.hid hy
          have HKy := Lib.hid ky
          have hzy : wq.heap.size ≤ wy.heap.size := ky.size
          have HKWy := Lib.hid (HKWq.out.trans (ky.mono (by simp) HKWq.out.size))
          have cvY := conv_bytes (own_bytes hy)
          have cvB := conv_bytes (HB.out.kp HKWy.out (by simp))
          obtain ⟨ZY, hZY⟩ : ∃ ZY : ByteArray, ZY = ⟨Y.toArray⟩ := ⟨_, rfl⟩
          obtain ⟨ZB, hZB⟩ : ∃ ZB : ByteArray, ZB = ⟨b.toArray⟩ := ⟨_, rfl⟩
          have HZE : Hid (∀ c : Bool, (Y = b → c = true) → (Y ≠ b → c = false) → (ZY.toList == ZB.toList) = c) := fun c h1 h2 => by
            rw [hZY, hZB, mk_toList, mk_toList]
            by_cases h : Y = b
            · rw [h1 h, h]; simp
            · rw [h2 h]; simpa using h
          have HZC : Hid (ZY = ⟨Y.toArray⟩ ∧ ZB = ⟨b.toArray⟩) := ⟨hZY, hZB⟩
          rw [← hZY] at cvY
          rw [← hZB] at cvB
          clear hZY hZB hy ky hny hyl
          go_upto_region 21 with fail
          go_cut [15] (fun s wx => s = .bool true ∧ Hid (wx = wy))
          case first =>
            by_cases hyb : Y = b
            · have ez : (ZY.toList == ZB.toList) = true := HZE.out true (fun _ => rfl) (fun h => absurd hyb h)
              clear hyb
              go_wp2
              go_meet
              exact ⟨rfl, rfl⟩
            · have ez : (ZY.toList == ZB.toList) = false := HZE.out false (fun h => absurd h hyb) (fun _ => rfl)
              have hy0 : yl = 0 := by
                rcases HYB.out with h | h
                · exact absurd h hyb
                · have := HYL.out; rw [h] at this; exact this.symm
              subst hy0
              clear hyb
              go_wp2
              go_meet
              exact ⟨rfl, rfl⟩
          case rest =>
            obtain ⟨rfl, hwy⟩ := hcut
            obtain rfl := hwy.out
            obtain ⟨Q0, hQ0⟩ : ∃ Q0, Q0 = wq.heap.size := ⟨_, rfl⟩
            obtain ⟨Q1, hQ1⟩ : ∃ Q1, Q1 = wc.heap.size := ⟨_, rfl⟩
            rw [← hQ0] at HYy
            have h9 : IsDisk wq (fun k => ((G2 ≤ k ∧ k ≠ tb) ∧ (k < X0 ∨ X1 ≤ k)) ∧ k < Q0) (mb + 1) mb D2 := HDq.out.mono (Nat.le_refl _) rfl rfl (fun j ha hl => ⟨⟨ha, by omega⟩, rfl⟩) ⟨fun h => by have := h.1.1.1; omega, fun h => by have := h.1.1.1; omega⟩
            have HDy := Lib.hid (h9.kp_ge HKy.out)
            have HTy := Lib.hid (HTq.out.kp HKy.out)
            have HBy := Lib.hid ((HKy.out.block tb (by omega) (by simp)).trans HBq.out)
            have HCy := Lib.hid (HCq.out.kp_ge HKy.out)
            have HGY : Hid (∀ a, oy = some a → ∃ g, a = ⟨g, 0, none⟩ ∧ Q0 ≤ g ∧ g < Q1) := fun a ha => by
              rcases HYy.out.2 with ⟨hv, _⟩ | ⟨g, cap', cur, hv, hg, hbk, _⟩
              · injection hv with e1; rw [ha] at e1; cases e1
              · injection hv with e1; rw [ha] at e1; injection e1 with e1; exact ⟨g, e1, hg, by rw [hQ1]; exact (Array.getElem?_eq_some_iff.1 hbk).1⟩
            obtain ⟨LY, hLY⟩ : ∃ LY, LY = (oy.map (·.block)).toList := ⟨_, rfl⟩
            have HLY : Hid (∀ j ∈ LY, Q0 ≤ j ∧ j < Q1) := fun j hj => by
              rw [hLY] at hj
              cases oy with
              | none => simp at hj
              | some a => obtain ⟨g, rfl, h1, h2⟩ := HGY.out a rfl; simp at hj; subst hj; exact ⟨h1, h2⟩
            have HLN : Hid (∀ a, oy = some a → a.block ∈ LY) := fun a ha => by rw [hLY, ha]; simp
            have HQ0 := Lib.hid hQ0
            have HQ1 := Lib.hid hQ1
            have hw4q : W4.heap.size ≤ wq.heap.size := by omega
            have hcbq : CB + 1 < wq.heap.size := by omega
            obtain ⟨wy, rfl⟩ : ∃ wy, wy = wc := ⟨_, rfl⟩
            have hq01 : Q0 ≤ Q1 := by omega
            have hylb : yl ≤ 1048576 := by have h1 := (old_len HDq.out.ok zz).1; rw [← HYE.out, HYL.out] at h1; exact h1
            have HTQ : Hid (∀ W, Kp [] Q0 wy W → IsT W (.agg #[.slice ao6 nf6 cap6, .int .i64 (dk.room : Int), .bool dk.fuse.isSome, .int .i64 left6, .bool dk.dead]) dk) := fun W hK => HTq.out.kp (HKy.out.trans (by rw [← HQ0.out]; exact hK))
            clear hLY h9 hQ0 hQ1 HDq HTq HBq HCq HKy cvY cvB hwy
            go_wp2_with fail
            go_loopw [16] (fun i wr => ∃ (j : Nat) (xs : List UInt8), j ≤ yl ∧ i = .int .i64 (j : Int) ∧ Hid (xs.length = yl) ∧ Hid (wr.ownsRow Q0 5 1 (.slice oy yl cy) yl (bcells xs)) ∧ Hid (Kp LY wy.heap.size wy wr)) (fun i _ => yl - (intOf i).toNat)
            case atStart => exact ⟨0, Y, by omega, rfl, HYL.out, HYy.out, Kp.refl _ _ _⟩
            case round =>
              obtain ⟨j, xs, hj, rfl, HXL, HXQ, HKQ⟩ := hrel
              by_cases hlt : j < yl
              · obtain ⟨g, rfl⟩ : ∃ g, oy = some ⟨g, 0, none⟩ := by
                  rcases HXQ.out.2 with ⟨_, hv⟩ | ⟨g, cap', cur, hv, _⟩
                  · omega
                  · injection hv with e1; exact ⟨g, e1⟩
                have hjx : j < xs.length := by have := HXL.out; omega
                obtain ⟨c, hc⟩ : ∃ c, c = xs[j] := ⟨_, rfl⟩
                obtain ⟨hcell, hfz⟩ := own_cell HXQ.out j (by rw [bcells_len]; exact hjx)
                have hce : (bcells xs)[j]'(by rw [bcells_len]; exact hjx) = .int .u8 (c.toNat : Int) := by rw [hc]; simp [bcells]
                rw [hce] at hcell
                obtain ⟨c', hc'⟩ : ∃ c' : UInt8, ((c.toNat : Int) + 1) % 256 = (c'.toNat : Int) := ⟨c + 1, by rw [UInt8.toNat_add]; simp⟩
                have hw1 : IntKind.u8.wrap ((c.toNat : Int) + 1) = (c'.toNat : Int) := by rw [IntKind.wrap_u8']; exact hc'
                have hjI : (j : Int) < (yl : Int) := by omega
                have hj0 : (0 : Int) ≤ (j : Int) := by omega
                have HW1 := Lib.hid (own_setB HXQ.out j hjx c')
                have HW2 := Lib.hid (HKQ.out.setCell (b := g) (.inr (HLN.out _ rfl)) j none (.int .u8 (c'.toNat : Int)))
                clear hc hce hc'
                go_wp2
                go_roundw
                case rel => exact ⟨j + 1, xs.set j c', by omega, by go_num, by show (xs.set j c').length = yl; rw [List.length_set]; exact HXL.out, HW1.out, HW2.out⟩
                case measure => simp [intOf]; omega
              · have hq0w : Q0 = wq.heap.size := HQ0.out
                have hq1y : Q1 = wy.heap.size := HQ1.out
                have hky : Kp [] Q0 wy wr := HKQ.out.shed (B' := Q0) (fun r hr => (HLY.out r hr).1) (by have := HQ1.out; omega)
                have HKyr := Lib.hid (HKQ.out)
                have HDr := Lib.hid (HDy.out.kp HKyr.out (Nat.le_refl _) (by intro r hr; have h := HLY.out r hr; exact ⟨fun h2 => by have := h2.2; omega, by omega, by omega⟩))
                have HBr := Lib.hid ((hky.block tb (by have := HQ0.out; omega) (by simp)).trans HBy.out)
                have HCr := Lib.hid (HCy.out.kp HKyr.out (Nat.le_refl _) (by intro r hr; have h := HLY.out r hr; exact ⟨fun h2 => by have := h2.2.2; omega, by omega, by omega⟩))
                have HKWr : Hid (Kp [] w1.heap.size w1 wr) := HKWy.out.trans (hky.mono (by simp) (by have := HKWq.out.size; omega))
                have HTr := Lib.hid (HTQ.out wr hky)
                have hcbr : CB + 1 < wr.heap.size := by have := hky.size; have := HKyr.out.size; omega
                have htr : tb < wr.heap.size := by have := HKyr.out.size; omega
                clear hky hq0w hq1y HKyr HDy HBy HCy HXQ HXL HKQ HYy
                go_wp2_with fail
                refine (dRead _ _ _ D2 zz wr HDr.out (by decide)).mono ?_
                rintro e wz ⟨vz, rfl, hz, kz⟩
                rw [← HYE.out, HYL.out] at hz
                obtain ⟨oz, zl, cz, rfl, hnz⟩ := own_shape hz
                obtain rfl : yl = zl := hnz.out.symm
                rw [← HTE.out]
                have HZ := Lib.hid hz
                have HTz := Lib.hid (HTr.out.kp kz)
                have HBz := Lib.hid ((kz.block tb htr (by simp)).trans HBr.out)
                have HCz := Lib.hid (HCr.out.kp_ge kz)
                have HKWz := Lib.hid (HKWr.out.trans (kz.mono (by simp) HKWr.out.size))
                have htz : tb < wz.heap.size := by have := kz.size; omega
                clear hz kz hnz HTr HBr HCr HDr
                go_wp2_with fail
                refine (lknown _).mono ?_
                rintro e w13 ⟨rfl, k13⟩
                have HT13 := Lib.hid (HTz.out.kp k13)
                have HB13 := Lib.hid ((k13.block tb htz (by simp)).trans HBz.out)
                have HC13 := Lib.hid (HCz.out.kp_ge k13)
                have HZ13 := Lib.hid (own_kp HZ.out k13 (Nat.le_refl _))
                have HKW13 := Lib.hid (HKWz.out.trans (k13.mono (by simp) HKWz.out.size))
                clear k13 HTz HBz HCz HZ
                obtain ⟨t0, t1, t2, t3, t4⟩ := boxT HB13.out
                go_wp2_with fail
                refine (llike dk _ w13 HC13.out HT13.out).mono ?_
                rintro e w14 ⟨rfl, k14⟩
                have HKW14 := Lib.hid (HKW13.out.trans (k14.mono (by simp) HKW13.out.size))
                have cvZ := conv_bytes (own_bytes (own_kp HZ13.out k14 (Nat.le_refl _)))
                have cvB := conv_bytes (HB.out.kp HKW14.out (by simp))
                rw [← HZC.out.1] at cvZ
                rw [← HZC.out.2] at cvB
                clear t0 t1 t2 t3 t4 k14 HT13 HB13 HC13 HZ13
                by_cases hyb : Y = b
                · have ez : (ZY.toList == ZB.toList) = true := HZE.out true (fun _ => rfl) (fun h => absurd hyb h)
                  clear hyb
                  go_wp2
                  go_ret
                  exact ⟨rfl, HKW14.out⟩
                · have ez : (ZY.toList == ZB.toList) = false := HZE.out false (fun h => absurd h hyb) (fun _ => rfl)
                  have hy0 : yl = 0 := by
                    rcases HYB.out with h | h
                    · exact absurd h hyb
                    · have := HYL.out; rw [h] at this; exact this.symm
                  subst hy0
                  clear hyb
                  go_wp2
                  go_ret
                  exact ⟨rfl, HKW14.out⟩
theorem diskCopy_row (a0 : Option Addr) (len0 cap0 : Nat) (rs0 : List (Dd × Value)) (a1 : Option Addr) (len1 cap1 : Nat) (z1 : List Int) (w : World) (w0 : DeedsV w a0 len0 cap0 rs0) (y0 : len0 * 40 ≤ 140737488351232)
    (w1 : (a1 = none ∧ len1 = 0 ∧ cap1 = 0 ∧ z1 = []) ∨ ∃ x, a1 = some x ∧ len1 ≤ cap1 ∧ cap1 ≤ maxLen ∧ z1.length = cap1 ∧ (∀ i, i < z1.length → w.cell? (x.add i) = some (.int .u8 (z1.getD i 0))) ∧ ∀ n ∈ z1, (Lit.int .u8 n).wf = true) (y1 : len1 * 1 ≤ 140737488351232) :
    Calls Try.prog 11 #[.slice a0 len0 cap0, .slice a1 len1 cap1] w fun e w' => e = .returned (.bool true) ∧ Below w.heap.size w w' := by
  obtain ⟨s, hls, hS⟩ := row_bytesW w1
  cases hbig : (decide (800 < weighs rs0 len0) || decide (100 < len1)) with
  | true => exact (copy_big a0 a1 len0 cap0 len1 cap1 rs0 w w0 y0 (by omega) hbig).mono fun e w' ⟨h1, h2⟩ => ⟨h1, h2.below⟩
  | false => exact (copy_small a0 a1 len0 cap0 len1 cap1 rs0 s w w0 y0 hS hbig).mono fun e w' ⟨h1, h2⟩ => ⟨h1, h2.below⟩
end Go.Proofs.Ytdabflkejhoghaa.Hand
