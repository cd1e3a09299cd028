/- Read, Lasting. -/
import Derived.Below
import Derived.Deep.Draws
import Derived.Deep.AppendLies
import Derived.Maps.AppendAt
import Derived.OwnWalk
import Derived.Laws.BytesArg
import Derived.Laws.MakeOwn
import Derived.Laws.OwnMore
import Derived.Deep.OwnRows
import Derived.Tactics
import Derived.Lib.ConvBytes
import Derived.Laws.Slices
import Derived.WalkKit
import Derived.KernelRfl
import Derived.RowKit3
import Derived.Deep.LoopGhost
import Derived.Deep.QuietTactic
import Derived.BigQuiet
import Derived.WideLaws
import Derived.Deep.DeepCutAuto
import Derived.Deep.CutBlock
import Derived.Deep.RegionHeld3
import Derived.Laws.Rows
import Derived.Lib.AppendStr
import Derived.ArgAppend
import Derived.Laws.IdiomCopy
import Derived.OrdersHeld
import Derived.Laws.BitsLemmas
import Derived.RowKit
import Derived.Outline
import Derived.Maps.Own
import Derived.Maps.OwnOps
import Derived.Maps.OwnSet
import Derived.Maps.Views
import Derived.Maps.RangeWalk
import Derived.Maps.Ext
import Derived.RangeFuncOwn
import Derived.OneCell
import Derived.Deep.DeepMust
import Derived.Lib.Hide
import Derived.Test.YtdabflkejhoghaaHDc
import Derived.Test.YtdabflkejhoghaaHLays
import Derived.Test.YtdabflkejhoghaaHShelf
namespace Go.Proofs.Ytdabflkejhoghaa.Hand
open Go Go.RowKit Go.Maps Go.WideMaps
set_option linter.unusedVariables false
/-- bytes, as cells -/
def bcells (b : List UInt8) : List Value := b.map fun x => .int .u8 (x.toNat : Int)
theorem bcells_len (b : List UInt8) : (bcells b).length = b.length := by simp [bcells]
theorem BytesV.cap {w : World} {A : Nat → Prop} {so : Option Addr} {n sc : Nat} {b : List UInt8} (h : BytesV w A (.slice so n sc) b) : b.length ≤ sc ∧ n = b.length := by
  obtain ⟨ao, cap, e, h1, _⟩ := h
  cases e; exact ⟨h1, rfl⟩
theorem BytesV.alloc {w : World} {A : Nat → Prop} {v : Value} {b : List UInt8} (h : BytesV w A v b) (o : Obj) : BytesV (w.alloc o) A v b :=
  h.mono (by simp) (fun k ha hk => ⟨ha, Lib.alloc_old w o k hk⟩)
theorem _root_.Go.World.ownsRow.base {w : World} {B B' E n : Nat} {v : Value} {xs : List Value} (h : w.ownsRow B E 1 v n xs) (hB : B' ≤ B) : w.ownsRow B' E 1 v n xs := by
  obtain ⟨h0, h1⟩ := h
  refine ⟨h0, ?_⟩
  rcases h1 with h1 | ⟨g, cap, cur, e, hg, r⟩
  · exact .inl h1
  · exact .inr ⟨g, cap, cur, e, by omega, r⟩
/-- what came of a copy -/
def NewB (w : World) (b : List UInt8) (e : Ending) (w' : World) : Prop := ∃ v, e = .returned v ∧ w'.ownsRow w.heap.size 5 1 v b.length (bcells b) ∧ Below w.heap.size w w'
theorem dClone {A : Nat → Prop} {v : Value} {b : List UInt8} {w : World} (h : BytesV w A v b) (hb : b.length ≤ 140737488355328) : Calls Try.prog 65 #[v] w (NewB w b) := by
  obtain ⟨ao, cap, rfl, h1, h2, h3⟩ := h
  rcases h3 with ⟨rfl, rfl, rfl⟩ | ⟨a, rfl, _, hc⟩
  · exact (Try.bytes_Clone_nil 0 0 w).mono (fun e w' ⟨he, hw⟩ => ⟨_, he, ⟨rfl, .inl ⟨rfl, rfl⟩⟩, by subst hw; exact Below.refl _ _⟩)
  · refine (Try.bytes_Clone_at a b.length cap (b.map fun x => (x.toNat : Int)) w (by simp) hb (fun i hi => ?_)).mono (fun e w' ⟨v', he, ho, _, hbl⟩ => ⟨v', he, ?_, hbl⟩)
    · rw [hc i hi, List.getD_eq_getElem?_getD, List.getElem?_map, List.getElem?_eq_getElem hi]; rfl
    · have e : ((b.map fun x => (x.toNat : Int)).map (Value.int .u8)) = bcells b := by simp [bcells]
      rw [← e]; exact ho
/-- what Read answers -/
def ReadP (w : World) (d : Dk) (nm : List UInt8) (e : Ending) (w' : World) : Prop :=
  ∃ v, e = .returned (.tuple #[v, .bool (d.there nm)]) ∧ w'.ownsRow w.heap.size 5 1 v (d.old nm).b.length (bcells (d.old nm).b) ∧ Kp [] w.heap.size w w'
theorem old_none {d : Dk} {nm : List UInt8} (h : d.there nm = false) : d.old nm = ⟨nm, [], 0⟩ := by
  unfold Dk.there at h; unfold Dk.old
  cases hl : d.look nm with
  | none => rfl
  | some f => rw [hl] at h; cases h
theorem old_some {d : Dk} {nm : List UInt8} (h : d.there nm = true) : d.look nm = some (d.old nm) := by
  unfold Dk.there at h; unfold Dk.old
  cases hl : d.look nm with
  | none => rw [hl] at h; cases h
  | some f => rfl
theorem old_len {d : Dk} (ho : d.Ok) (nm : List UInt8) : (d.old nm).b.length ≤ 1048576 ∧ (d.old nm).lasts ≤ (d.old nm).b.length := by
  unfold Dk.old
  cases hl : d.look nm with
  | none => simp
  | some f =>
    have hm := (Dk.look_mem hl).1
    have h1 := used_mem hm
    have h2 := ho.used
    have h3 := ho.room
    exact ⟨by simp; omega, ho.lasts f hm⟩
theorem field0 (a b : Value) (w : World) : (Instr.field 103 (.agg #[a, b]) 0).run Try.prog w = .ok a w := by kernel_rfl
/-- what a walk needs of a disk to look a name up -/
theorem IsDisk.ready {w : World} {A : Nat → Prop} {p mb : Nat} {d : Dk} (h : IsDisk w A p mb d) (nm : List UInt8) : ∃ (gs : List G) (so : Option Addr) (sc : Nat), w.cell? ⟨p, 0, none⟩ = some (.map (some mb)) ∧ Hid (d.files = gs.map (·.1)) ∧
    w.ownsMap Try.prog 9 heldR mb gs.length (entsD gs) ∧ oldV gs nm = .agg #[.slice so (d.old nm).b.length sc, .int .i64 ((d.old nm).lasts : Int)] ∧ BytesV w A (.slice so (d.old nm).b.length sc) (d.old nm).b := by
  obtain ⟨left, gs, ⟨c0, _⟩, _, _, hgs, hown, hf⟩ := h.cells
  obtain ⟨so, sc, hs, hv⟩ := old_is hgs hf nm
  exact ⟨gs, so, sc, c0, Lib.hid hgs, hown, hs, hv⟩
set_option maxHeartbeats 800000 in
set_option maxRecDepth 100000 in
theorem dRead (A : Nat → Prop) (p mb : Nat) (d : Dk) (nm : List UInt8) (w : World) (h : IsDisk w A p mb d) (hl : nm.length ≤ maxLen) :
    Calls Try.prog 30 #[.pointer (some ⟨p, 0, none⟩), .string ⟨nm.toArray⟩] w (ReadP w d nm) := by
  by_cases ht : d.there nm = true
  · have hlb : (d.old nm).b.length ≤ 140737488355328 := by have := old_len h.ok nm; omega
    unfold ReadP
    have hfld := field0
    go_enter Try.func30, Try.ntmps30
    go_wp2_with (first
      | (go_at_call 60; (with_reducible refine (dthere A p mb d nm _ h hl).mono ?_); rintro e w1 ⟨rfl, hk⟩; rw [ht]; obtain ⟨gs, so, sc, c0, _, hown, hs, hv⟩ := (h.kp hk (Nat.le_refl _) (by simp)).ready nm; have HK := Lib.hid hk; clear hk)
      | (at_lookup; go_must (refine wpList_look rfl _ _ rfl mb _ gs rfl hown nm rfl hl _ _ hs ?_))
      | (go_at_call 65; go_must ((with_reducible refine (dClone hv hlb).mono ?_); rintro e w2 ⟨v, rfl, ho, hb⟩)))
    go_ret2
    exact ⟨v, by rw [ht]; rfl, ho.base HK.out.size, HK.out.trans (Kp.of_below hb HK.out.size)⟩
  · have ht : d.there nm = false := by simpa using ht
    unfold ReadP
    rw [old_none ht, ht]
    go_enter Try.func30, Try.ntmps30
    go_wp2_with (go_at_call 60; (with_reducible refine (dthere A p mb d nm _ h hl).mono ?_); rintro e w1 ⟨rfl, hk⟩; rw [ht])
    go_ret2
    exact ⟨_, rfl, ⟨rfl, .inl ⟨rfl, rfl⟩⟩, hk⟩
theorem dRead_nil (nm : List UInt8) (w : World) :
    Calls Try.prog 30 #[.pointer none, .string ⟨nm.toArray⟩] w fun e w' => e = .returned (.tuple #[.slice none 0 0, .bool false]) ∧ w = w' := by
  go_enter Try.func30, Try.ntmps30
  go_wp2_with (go_at_call 60; (with_reducible refine (dthere_nil nm _).mono ?_); rintro e w1 ⟨rfl, rfl⟩)
  go_ret2
  exact ⟨rfl, rfl⟩
set_option maxHeartbeats 800000 in
set_option maxRecDepth 100000 in
theorem dLasting (A : Nat → Prop) (p mb : Nat) (d : Dk) (nm : List UInt8) (w : World) (h : IsDisk w A p mb d) (hl : nm.length ≤ maxLen) :
    Calls Try.prog 33 #[.pointer (some ⟨p, 0, none⟩), .string ⟨nm.toArray⟩] w fun e w' => ∃ v, e = .returned v ∧ w'.ownsRow w.heap.size 5 1 v (d.old nm).last.length (bcells (d.old nm).last) ∧ Kp [] w.heap.size w w' := by
  by_cases ht : d.there nm = true
  · have hlen := old_len h.ok nm
    have hlb : ((d.old nm).b.take (d.old nm).lasts).length ≤ 140737488355328 := by simp; omega
    have hla : (d.old nm).last.length = (d.old nm).lasts := by unfold F.last; simp; omega
    go_enter Try.func33, Try.ntmps33
    go_wp2_with (first
      | (go_at_call 60; (with_reducible refine (dthere A p mb d nm _ h hl).mono ?_); rintro e w1 ⟨rfl, hk⟩; rw [ht]; obtain ⟨gs, so, sc, c0, _, hown, hs, hv⟩ := (h.kp hk (Nat.le_refl _) (by simp)).ready nm; have hsc : ((d.old nm).lasts : Int) ≤ (sc : Int) := (by have := hv.cap; omega); have HK := Lib.hid hk; clear hk)
      | (at_lookup; go_must (refine wpList_look rfl _ _ rfl mb _ gs rfl hown nm rfl hl _ _ hs ?_))
      | (go_at_call 65; go_must ((with_reducible refine (dClone ((hv.take (d.old nm).lasts hlen.2).alloc _) hlb).mono ?_); rintro e w2 ⟨v, rfl, ho, hb⟩)))
    go_ret
    exact ⟨v, rfl, ho.base (by have := HK.out.size; simp; omega), HK.out.trans (Kp.of_below (((Below.refl _ _).alloc (Nat.le_refl _) _).trans (hb.mono (by simp))) HK.out.size)⟩
  · have ht : d.there nm = false := by simpa using ht
    rw [old_none ht]
    go_enter Try.func33, Try.ntmps33
    go_wp2_with (go_at_call 60; (with_reducible refine (dthere A p mb d nm _ h hl).mono ?_); rintro e w1 ⟨rfl, hk⟩; rw [ht])
    go_ret
    exact ⟨_, rfl, ⟨rfl, .inl ⟨rfl, rfl⟩⟩, hk⟩
end Go.Proofs.Ytdabflkejhoghaa.Hand
