/- The disk's functions, but for Append. -/
import Derived.Maps.OwnSet
import Derived.Maps.RangeWalk
import Derived.RowKit
import Derived.Test.YtdabflkejhoghaaGreatHQa
import Derived.Test.YtdabflkejhoghaaGreatProg
import Derived.Laws.AppendOwn
import Derived.Lib.Builder
import Derived.WalkKit
import Derived.Deep.QuietTactic
import Derived.Below
import Derived.Deep.Draws
import Derived.Deep.AppendLies
import Derived.Maps.AppendAt
import Derived.OwnWalk
import Derived.Laws.BytesArg
import Derived.Laws.MakeOwn
import Derived.Laws.OwnMore
import Derived.Deep.OwnRows
import Derived.Tactics
import Derived.Lib.ConvBytes
import Derived.Laws.Slices
import Derived.KernelRfl
import Derived.RowKit3
import Derived.Deep.LoopGhost
import Derived.BigQuiet
import Derived.WideLaws
import Derived.Deep.DeepCutAuto
import Derived.Deep.CutBlock
import Derived.Deep.RegionHeld3
import Derived.Laws.Rows
import Derived.Lib.AppendStr
import Derived.ArgAppend
import Derived.Laws.IdiomCopy
import Derived.OrdersHeld
import Derived.Laws.BitsLemmas
import Derived.Outline
import Derived.Maps.Own
import Derived.Maps.OwnOps
import Derived.Maps.Views
import Derived.Maps.Ext
import Derived.RangeFuncOwn
import Derived.OneCell
import Derived.Deep.DeepMust
import Derived.Lib.Hide
import Derived.Test.YtdabflkejhoghaaGreatHLays
import Derived.Test.YtdabflkejhoghaaGreatHShelf
import Derived.StillTailTactics
import Derived.Laws.AppendOwnNone
import Derived.WalkMore
namespace Go.Proofs.YtdabflkejhoghaaGreat.Hand
open Go Go.RowKit
set_option linter.unusedVariables false
/-- An element of a map reads as itself. -/
def heldR (v : Value) : Option (DataW Value × List MemPlace) := some (.held v, [])
/-- A file, and the value that stands for it. -/
abbrev G := F × Value
def gname (g : G) : List UInt8 := g.1.name
def ent (g : G) : Lit × DataW Value := (.string g.1.name, .held g.2)
def entsD (gs : List G) : DataW Value := .map (gs.map ent)
theorem insert_ents (g : G) : ∀ gs : List G, DataW.insert (ent g) (gs.map ent) = (insBy gname g gs).map ent
  | [] => rfl
  | y :: r => by
    simp only [List.map_cons, DataW.insert, insBy]
    have : (ent g).1.before (ent y).1 = bytesBefore (gname g) (gname y) := rfl
    rw [this]
    split
    · rfl
    · simp [insert_ents g r]
theorem del_filter (k : List UInt8) (gs : List G) : (gs.map ent).filter (fun p => !p.1.sameKey (.string k)) = (delBy gname k gs).map ent := by
  unfold delBy
  rw [List.filter_map]
  rfl
theorem put_ents (g : G) (gs : List G) : (entsD gs).put (.string g.1.name) (.held g.2) = entsD (putBy gname g gs) := by
  show DataW.map (DataW.insert (ent g) ((gs.map ent).filter fun p => !p.1.sameKey (.string g.1.name))) = _
  rw [del_filter, insert_ents]
  rfl
theorem put_ents' (g : G) (gs : List G) (k : List UInt8) (v : Value) (hk : k = g.1.name) (hv : v = g.2) : (entsD gs).put (.string k) (.held v) = entsD (putBy gname g gs) := by
  subst hk hv; exact put_ents g gs
theorem del_ents (k : List UInt8) (gs : List G) : (entsD gs).del (.string k) = entsD (delBy gname k gs) := by
  show DataW.map ((gs.map ent).filter fun p => !p.1.sameKey (.string k)) = _
  rw [del_filter]
  rfl
theorem has_ents (k : List UInt8) (gs : List G) : Maps.has (entsD gs) (.string k) = (lookBy gname k gs).isSome := by
  show (gs.map ent).any _ = (gs.find? _).isSome
  rw [List.any_map, Bool.eq_iff_iff, List.find?_isSome, List.any_eq_true]
  rfl
theorem atKey_ents (k : List UInt8) (gs : List G) (zd : DataW Value) : (entsD gs).atKey (.string k) zd = match lookBy gname k gs with | some g => .held g.2 | none => zd := by
  have e : (gs.map ent).find? (fun p => p.1.sameKey (.string k)) = (lookBy gname k gs).map ent := by rw [List.find?_map]; rfl
  unfold entsD DataW.atKey
  simp only [e]
  cases lookBy gname k gs <;> rfl
theorem size_ents (gs : List G) : Maps.size (entsD gs) = gs.length := by simp [entsD, Maps.size_eq]
/-- the bound on a map's entries, made sharp -/
theorem ownsMap_sharp {w : World} {P : Program} {k : TypeId} {R : Value → Option (DataW Value × List MemPlace)} {b n : Nat} {D : DataW Value} (h : w.ownsMap P k R b n D) : w.ownsMap P k R b (Maps.size D) D := by
  obtain ⟨es, clock, hb, F, hs, rfl⟩ := h
  exact ⟨es, clock, hb, F, by simp [Maps.size, length_sorted], rfl⟩
theorem ownsMap_ents {w : World} {P : Program} {k : TypeId} {b n : Nat} {gs : List G} (h : w.ownsMap P k heldR b n (entsD gs)) : w.ownsMap P k heldR b gs.length (entsD gs) := by
  have := ownsMap_sharp h
  rwa [size_ents] at this
end Go.Proofs.YtdabflkejhoghaaGreat.Hand
namespace Go.Proofs.YtdabflkejhoghaaGreat.Hand
open Go Go.RowKit
set_option linter.unusedVariables false
theorem add_block (a : Addr) (j : Nat) : (a.add j).block = a.block := by unfold Addr.add; split <;> rfl
theorem add_add (a : Addr) (i j : Nat) (h : a.spot = none) : (a.add i).add j = a.add (i + j) := by
  unfold Addr.add
  by_cases hi : i = 0
  · subst hi; simp
  · by_cases hj : j = 0
    · subst hj; simp [hi]
    · simp [hi, hj, Nat.add_assoc]
/-- Below B nothing has turned but the blocks of L. -/
structure Kp (L : List Nat) (B : Nat) (w w' : World) : Prop where
  os : w'.os = w.os
  tape : w'.tape = w.tape
  output : w'.output = w.output
  size : w.heap.size ≤ w'.heap.size
  block : ∀ k, k < B → k ∉ L → w'.heap[k]? = w.heap[k]?
theorem Kp.refl (L : List Nat) (B : Nat) (w : World) : Kp L B w w := ⟨rfl, rfl, rfl, Nat.le_refl _, fun _ _ _ => rfl⟩
theorem Kp.trans {L : List Nat} {B : Nat} {x y z : World} (h : Kp L B x y) (k : Kp L B y z) : Kp L B x z :=
  ⟨k.os.trans h.os, k.tape.trans h.tape, k.output.trans h.output, Nat.le_trans h.size k.size, fun i hb hn => (k.block i hb hn).trans (h.block i hb hn)⟩
theorem Kp.mono {L L' : List Nat} {B B' : Nat} {x y : World} (h : Kp L B x y) (hL : ∀ k ∈ L, k ∈ L') (hB : B' ≤ B) : Kp L' B' x y :=
  ⟨h.os, h.tape, h.output, h.size, fun k hk hn => h.block k (by omega) (fun e => hn (hL k e))⟩
theorem Kp.below {B : Nat} {x y : World} (h : Kp [] B x y) : Below B x y := ⟨h.os, h.tape, h.output, h.size, fun k hk => h.block k hk (by simp)⟩
theorem Kp.of_below {B B' : Nat} {L : List Nat} {x y : World} (h : Below B x y) (hB : B' ≤ B) : Kp L B' x y := ⟨h.os, h.tape, h.output, h.size, fun k hk _ => h.block k (by omega)⟩
theorem Kp.alloc {L : List Nat} {B : Nat} {x y : World} (h : Kp L B x y) (hB : B ≤ y.heap.size) (o : Obj) : Kp L B x (y.alloc o) :=
  h.trans (Kp.of_below ((Below.refl _ y).alloc (Nat.le_refl _) o) hB)
theorem Kp.drew {L : List Nat} {B : Nat} {x y : World} (h : Kp L B x y) (n : Nat) : Kp L B x (y.drewN n) := ⟨h.os, h.tape, h.output, h.size, fun k hk hn => h.block k hk hn⟩
theorem Kp.setCell {L : List Nat} {B : Nat} {x y : World} (h : Kp L B x y) {b : Nat} (hb : B ≤ b ∨ b ∈ L) (j : Nat) (s : Option Nat) (u : Value) : Kp L B x (y.setCell ⟨b, j, s⟩ u) :=
  ⟨h.os, h.tape, h.output, by simpa [World.setCell] using h.size, fun k hk hn => (Below.heap_setCell _ _ _ _ (fun e => by
    have e' : k = b := e
    subst e'
    rcases hb with hb | hb
    · omega
    · exact hn hb)).trans (h.block k hk hn)⟩
theorem Kp.cell {L : List Nat} {B : Nat} {x y : World} (h : Kp L B x y) {p : Addr} (hB : p.block < B) (hn : p.block ∉ L) : y.cell? p = x.cell? p := World.cell?_of_block (w := x) (h.block p.block hB hn)

/-- A slice of bytes that reads as b, in blocks that A lets. -/
def BytesV (w : World) (A : Nat → Prop) (v : Value) (b : List UInt8) : Prop :=
  ∃ (ao : Option Addr) (cap : Nat), v = .slice ao b.length cap ∧ b.length ≤ cap ∧ cap ≤ 9223372036854775807 ∧ ((ao = none ∧ b = [] ∧ cap = 0) ∨ ∃ a, ao = some a ∧ (b ≠ [] → A a.block ∧ a.block < w.heap.size) ∧ ∀ j (hj : j < b.length), w.cell? (a.add j) = some (.int .u8 ((b[j]'hj).toNat : Int)))
theorem BytesV.mono {w w' : World} {A A' : Nat → Prop} {v : Value} {b : List UInt8} (h : BytesV w A v b) (hs : w.heap.size ≤ w'.heap.size) (hA : ∀ k, A k → k < w.heap.size → A' k ∧ w'.heap[k]? = w.heap[k]?) : BytesV w' A' v b := by
  obtain ⟨ao, cap, rfl, h1, h2, h3⟩ := h
  refine ⟨ao, cap, rfl, h1, h2, ?_⟩
  rcases h3 with h3 | ⟨a, rfl, ha, hc⟩
  · exact .inl h3
  · refine .inr ⟨a, rfl, fun hb => ?_, fun j hj => ?_⟩
    · obtain ⟨h4, h5⟩ := ha hb
      exact ⟨(hA _ h4 h5).1, by omega⟩
    · obtain ⟨h4, h5⟩ := ha (fun e => by subst e; simp at hj)
      exact (World.cell?_of_block (w := w) (by rw [add_block]; exact (hA _ h4 h5).2)).trans (hc j hj)
theorem BytesV.nil (w : World) (A : Nat → Prop) : BytesV w A (.slice none 0 0) [] := ⟨none, 0, rfl, Nat.le_refl _, by omega, .inl ⟨rfl, rfl, rfl⟩⟩
/-- what a slice of its own reads as -/
theorem BytesV.own {w : World} {A : Nat → Prop} {base E : Nat} {v : Value} {b : List UInt8} {n : Nat} (h : w.ownsRow base E 1 v n (b.map fun x => .int .u8 (x.toNat : Int))) (hA : ∀ k, base ≤ k → A k) : BytesV w A v b := by
  obtain ⟨hl, hv⟩ := h
  have hn : n = b.length := by simpa using hl.symm
  subst hn
  rcases hv with ⟨rfl, hx⟩ | ⟨g, cap, cur, rfl, hg, hb, h1, h2, h3, h4⟩
  · have : b = [] := List.length_eq_zero_iff.1 hx
    subst this
    exact BytesV.nil w A
  · refine ⟨_, cap, rfl, h1, by unfold maxLen at h2; exact h2, .inr ⟨_, rfl, fun _ => ⟨hA g hg, (Array.getElem?_eq_some_iff.1 hb).1⟩, fun j hj => ?_⟩⟩
    have e : (⟨g, 0, none⟩ : Addr).add j = ⟨g, j, none⟩ := by unfold Addr.add; split <;> simp_all
    rw [e, Lib.cell_of_heap hb, ← Array.getElem?_toList]
    have h5 : (cur.toList.take (b.length * 1))[j]? = (b.map fun x => Value.int .u8 (x.toNat : Int))[j]? := by rw [h4]
    rw [List.getElem?_take_of_lt (by omega)] at h5
    rw [h5, List.getElem?_map, List.getElem?_eq_getElem hj]
    rfl
/-- its front -/
theorem BytesV.take {w : World} {A : Nat → Prop} {ao : Option Addr} {m cap : Nat} {b : List UInt8} (h : BytesV w A (.slice ao m cap) b) (k : Nat) (hk : k ≤ b.length) : BytesV w A (.slice ao k cap) (b.take k) := by
  obtain ⟨ao', cap', e, h1, h2, h3⟩ := h
  obtain ⟨rfl, rfl, rfl⟩ : ao = ao' ∧ m = b.length ∧ cap = cap' := by simpa using e
  have hkl : (b.take k).length = k := by simp; omega
  refine ⟨ao, cap, by rw [hkl], by omega, h2, ?_⟩
  rcases h3 with ⟨rfl, rfl, rfl⟩ | ⟨a, rfl, ha, hc⟩
  · exact .inl ⟨rfl, by simp, rfl⟩
  · exact .inr ⟨a, rfl, fun hb => ha (fun e => hb (by rw [e]; simp)), fun j hj => by rw [List.getElem_take]; exact hc j (by omega)⟩

/-- A file as it lies in the map. -/
def FileV (w : World) (A : Nat → Prop) (g : G) : Prop := ∃ s, g.2 = .agg #[s, .int .i64 (g.1.lasts : Int)] ∧ BytesV w A s g.1.b
theorem FileV.mono {w w' : World} {A A' : Nat → Prop} {g : G} (h : FileV w A g) (hs : w.heap.size ≤ w'.heap.size) (hA : ∀ k, A k → k < w.heap.size → A' k ∧ w'.heap[k]? = w.heap[k]?) : FileV w' A' g := by
  obtain ⟨s, e, hb⟩ := h
  exact ⟨s, e, hb.mono hs hA⟩

/-- Block p is a disk that reads as d; mb is its map; its files' bytes lie in blocks that A lets. -/
def IsDisk (w : World) (A : Nat → Prop) (p mb : Nat) (d : Dk) : Prop :=
  ∃ (left : Int) (gs : List G), w.heap[p]? = some (.cells #[.map (some mb), .int .i64 (d.room : Int), .bool d.fuse.isSome, .int .i64 left, .bool d.dead] 56 (0, 0)) ∧
    (-9223372036854775808 ≤ left ∧ left ≤ 9223372036854775807 ∧ ∀ k : Nat, d.fuse = some k → left = k) ∧ d.files = gs.map (·.1) ∧ w.ownsMap Tryz.prog 9 heldR mb gs.length (entsD gs) ∧ (∀ g ∈ gs, FileV w A g) ∧ (mb ≠ p ∧ ¬ A p ∧ ¬ A mb) ∧ d.Ok
theorem IsDisk.lt {w : World} {A : Nat → Prop} {p mb : Nat} {d : Dk} (h : IsDisk w A p mb d) : p < w.heap.size ∧ mb < w.heap.size := by
  obtain ⟨left, gs, hp, _, _, hm, _⟩ := h
  exact ⟨(Array.getElem?_eq_some_iff.1 hp).1, hm.lt⟩
theorem IsDisk.ok {w : World} {A : Nat → Prop} {p mb : Nat} {d : Dk} (h : IsDisk w A p mb d) : d.Ok := by
  obtain ⟨left, gs, _, _, _, _, _, _, ho⟩ := h
  exact ho
theorem ownsMap_kept {w w' : World} {P : Program} {k : TypeId} {R : Value → Option (DataW Value × List MemPlace)} {b n : Nat} {D : DataW Value} (h : w.ownsMap P k R b n D) (hb : w'.heap[b]? = w.heap[b]?) : w'.ownsMap P k R b n D := by
  obtain ⟨es, clock, h1, h2⟩ := h
  exact ⟨es, clock, hb.trans h1, h2⟩
/-- A disk stays what it is while other blocks turn. -/
theorem IsDisk.mono {w w' : World} {A A' : Nat → Prop} {p mb : Nat} {d : Dk} (h : IsDisk w A p mb d) (hs : w.heap.size ≤ w'.heap.size) (hp : w'.heap[p]? = w.heap[p]?) (hm : w'.heap[mb]? = w.heap[mb]?)
    (hA : ∀ k, A k → k < w.heap.size → A' k ∧ w'.heap[k]? = w.heap[k]?) (hn : ¬ A' p ∧ ¬ A' mb) : IsDisk w' A' p mb d := by
  obtain ⟨left, gs, h1, h2, h3, h4, h5, h6, h7⟩ := h
  exact ⟨left, gs, hp.trans h1, h2, h3, ownsMap_kept h4 hm, fun g hg => (h5 g hg).mono hs hA, ⟨h6.1, hn.1, hn.2⟩, h7⟩
theorem IsDisk.kp {w w' : World} {A : Nat → Prop} {p mb : Nat} {d : Dk} (h : IsDisk w A p mb d) {L : List Nat} {B : Nat} (hk : Kp L B w w') (hB : w.heap.size ≤ B) (hL : ∀ k ∈ L, ¬ A k ∧ k ≠ p ∧ k ≠ mb) : IsDisk w' A p mb d := by
  have hlt := h.lt
  obtain ⟨left, gs, h1, h2, h3, h4, h5, h6, h7⟩ := id h
  refine h.mono hk.size (hk.block _ (by omega) (fun e => (hL _ e).2.1 rfl)) (hk.block _ (by omega) (fun e => (hL _ e).2.2 rfl)) (fun k ha hl => ⟨ha, hk.block _ (by omega) (fun e => (hL _ e).1 ha)⟩) h6.2
end Go.Proofs.YtdabflkejhoghaaGreat.Hand
namespace Go.Proofs.YtdabflkejhoghaaGreat.Hand
open Go Go.RowKit Go.Maps Go.WideMaps
set_option linter.unusedVariables false
theorem law : Keyed Tryz.prog 9 := string_keyed Tryz.underlying9
theorem hkey {nm : List UInt8} (h : nm.length ≤ maxLen) : keyOf Tryz.prog 9 (.string ⟨nm.toArray⟩) = some (.string nm) := keyOf_string_mk Tryz.underlying9 h
theorem new_is (A : Nat → Prop) (room r : Int) (w : World) (hr : r = max 0 (min room 1048576)) (hA : ¬ A w.heap.size ∧ ¬ A (w.heap.size + 1)) :
    IsDisk ((w.alloc (.map #[] 0)).alloc (.cells #[.map (some w.heap.size), .int .i64 r, .bool false, .int .i64 0, .bool false] 56)) A (w.heap.size + 1) w.heap.size (Dk.new room) := by
  have e : ((Dk.new room).room : Int) = r := by show (((max 0 (min room 1048576)).toNat : Nat) : Int) = r; omega
  have hm := World.ownsMap_made w Tryz.prog 9 heldR
  refine ⟨0, [], ?_, ⟨by omega, by omega, fun k hk => by cases hk⟩, rfl, ?_, by simp, ⟨by omega, hA.2, hA.1⟩, Dk.Ok.new room⟩
  · rw [e]
    have := World.alloc_heap_new (w.alloc (.map #[] 0)) (.cells #[.map (some w.heap.size), .int .i64 r, .bool false, .int .i64 0, .bool false] 56)
    rwa [World.size_alloc] at this
  · exact hm.alloc _
set_option maxHeartbeats 800000 in
theorem dNew (A : Nat → Prop) (room : Int) (w : World) (hr : -9223372036854775808 ≤ room ∧ room ≤ 9223372036854775807) (hA : ¬ A w.heap.size ∧ ¬ A (w.heap.size + 1)) :
    Calls Tryz.prog 6 #[.int .i64 room] w fun e w' => e = .returned (.pointer (some ⟨w.heap.size + 1, 0, none⟩)) ∧ IsDisk w' A (w.heap.size + 1) w.heap.size (Dk.new room) ∧ Kp [] w.heap.size w w' := by
  have hmm := @run_makeMap Tryz.prog
  go_enter Tryz.func6, Tryz.ntmps6
  go_wp2
  all_goals
    go_ret
    refine ⟨rfl, new_is A room _ w (by omega) hA, (Kp.refl _ _ _).alloc (Nat.le_refl _) _ |>.alloc (by simp) _⟩
theorem dDead (A : Nat → Prop) (p mb : Nat) (d : Dk) (w : World) (h : IsDisk w A p mb d) :
    Calls Tryz.prog 29 #[.pointer (some ⟨p, 0, none⟩)] w fun e w' => e = .returned (.bool d.dead) ∧ w = w' := by
  obtain ⟨left, gs, hp, _⟩ := h
  have c4 : w.cell? ⟨p, 4, none⟩ = some (.bool d.dead) := by rw [Lib.cell_of_heap hp]; rfl
  go_enter Tryz.func29, Tryz.ntmps29
  go_wp2
  go_ret
  exact ⟨rfl, rfl⟩
theorem dDead_nil (w : World) :
    Calls Tryz.prog 29 #[.pointer none] w fun e w' => e = .returned (.bool false) ∧ w = w' := by
  go_enter Tryz.func29, Tryz.ntmps29
  go_wp2
  go_ret
  exact ⟨rfl, rfl⟩
theorem dnamed (nm : List UInt8) (w : World) (hl : nm.length ≤ maxLen) :
    Calls Tryz.prog 64 #[.string ⟨nm.toArray⟩] w fun e w' => e = .returned (.bool (named nm)) ∧ w = w' := by
  unfold maxLen at hl
  by_cases h0 : nm = []
  · subst h0
    go_enter Tryz.func64, Tryz.ntmps64
    go_wp2
    go_ret
    exact ⟨rfl, rfl⟩
  · have h1 : 1 ≤ nm.length := by cases nm with | nil => exact absurd rfl h0 | cons x l => simp
    have h2 : nm.isEmpty = false := by cases nm with | nil => exact absurd rfl h0 | cons x l => rfl
    have e : named nm = decide ((nm.length : Int) ≤ 20) := by unfold named; rw [decide_eq_true h1, Bool.true_and]; exact decide_eq_decide.2 (by omega)
    rw [e]
    clear e
    go_enter Tryz.func64, Tryz.ntmps64
    go_wp2
    go_ret
    exact ⟨rfl, rfl⟩
end Go.Proofs.YtdabflkejhoghaaGreat.Hand
namespace Go.Proofs.YtdabflkejhoghaaGreat.Hand
open Go Go.RowKit Go.Maps Go.WideMaps
set_option linter.unusedVariables false
theorem zeroFile (w : World) : (zeroValue 93).run Tryz.prog w = .ok (.agg #[.slice none 0 0, .int .i64 0]) w := by kernel_rfl
theorem look_g {d : Dk} {gs : List G} (h : d.files = gs.map (·.1)) (nm : List UInt8) : d.look nm = (lookBy gname nm gs).map (·.1) := by
  unfold Dk.look; rw [h]; exact map_lookBy (nm := gname) (nm' := F.name) (fun g : G => g.1) (fun _ => rfl) nm gs
/-- what a look-up gives: the file's value, or that of none -/
def oldV (gs : List G) (nm : List UInt8) : Value := match lookBy gname nm gs with | some g => g.2 | none => .agg #[.slice none 0 0, .int .i64 0]
section
variable {w : World} {ops : Array Oper} {rest : List Oper} {o : Oper} {a : Act} {Q : Exit → Act → World → Prop}
theorem heldR_inv {gs : List G} {nm : List UInt8} {v : Value} {ps : List MemPlace} (h : heldR v = some ((entsD gs).atKey (.string nm) (.held (.agg #[.slice none 0 0, .int .i64 0])), ps)) : v = oldV gs nm := by
  rw [atKey_ents] at h
  unfold heldR at h
  unfold oldV
  cases hl : lookBy gname nm gs <;> rw [hl] at h <;> simp at h <;> exact h.1
theorem wpList_look_ok (hg : o.guard = none) (m x : Operand) (hop : o.op = Op.lookup 54 m x true) (mb n : Nat) (gs : List G) (hm : a.eval m = .map (some mb)) (hown : w.ownsMap Tryz.prog 9 heldR mb n (entsD gs))
    (nm : List UInt8) (hx : a.eval x = .string ⟨nm.toArray⟩) (hl : nm.length ≤ maxLen) (s l : Value) (hs : oldV gs nm = .agg #[s, l]) (b : Bool) (hb : (lookBy gname nm gs).isSome = b)
    (hK : wpList Tryz.prog ops Q rest (a.put o.dst (.tuple #[.agg #[s, l], .bool b])) w) : wpList Tryz.prog ops Q (o :: rest) a w :=
  wpList_lookup_own_ok w hg m x 54 hop 9 93 law Tryz.underlying54 heldR (zeroFile _) (.held (.agg #[.slice none 0 0, .int .i64 0])) [] rfl mb n (entsD gs) hm hown _ (.string nm) hx (hkey hl) (fun v ps hv => by
    rw [heldR_inv hv, hs, has_ents, hb]; exact hK)
theorem run_look {mb n : Nat} {gs : List G} (hown : w.ownsMap Tryz.prog 9 heldR mb n (entsD gs)) {nm : List UInt8} (hl : nm.length ≤ maxLen) : (Instr.lookup 54 (.map (some mb)) (.string ⟨nm.toArray⟩) false).run Tryz.prog w = .ok (oldV gs nm) w := by
  obtain ⟨v, ps, hrun, hv⟩ := hown.lookup law Tryz.underlying54 (zeroFile _) (zd := .held (.agg #[.slice none 0 0, .int .i64 0])) (zp := []) rfl (hkey hl)
  rw [hrun, heldR_inv hv]
theorem wpList_look (hg : o.guard = none) (m x : Operand) (hop : o.op = Op.lookup 54 m x false) (mb n : Nat) (gs : List G) (hm : a.eval m = .map (some mb)) (hown : w.ownsMap Tryz.prog 9 heldR mb n (entsD gs))
    (nm : List UInt8) (hx : a.eval x = .string ⟨nm.toArray⟩) (hl : nm.length ≤ maxLen) (s l : Value) (hs : oldV gs nm = .agg #[s, l])
    (hK : wpList Tryz.prog ops Q rest (a.put o.dst (.agg #[s, l])) w) : wpList Tryz.prog ops Q (o :: rest) a w := by
  refine wpList_plain hg fun K' hK' => ?_
  unfold Oper.wp
  simp [execOp, hop, hm, hx, run_look hown hl, Result.andThen]
  rw [hs]
  exact hK' _ _ hK
end
/-- a step of a law that speaks of cells: what the walk needs of a disk -/
theorem IsDisk.cells {w : World} {A : Nat → Prop} {p mb : Nat} {d : Dk} (h : IsDisk w A p mb d) : ∃ (left : Int) (gs : List G),
    (w.cell? ⟨p, 0, none⟩ = some (.map (some mb)) ∧ w.cell? ⟨p, 1, none⟩ = some (.int .i64 (d.room : Int)) ∧ w.cell? ⟨p, 2, none⟩ = some (.bool d.fuse.isSome) ∧ w.cell? ⟨p, 3, none⟩ = some (.int .i64 left) ∧ w.cell? ⟨p, 4, none⟩ = some (.bool d.dead)) ∧
    (∀ j, w.frozen? ⟨p, j, none⟩ = false) ∧ (-9223372036854775808 ≤ left ∧ left ≤ 9223372036854775807 ∧ ∀ k : Nat, d.fuse = some k → left = k) ∧ d.files = gs.map (·.1) ∧ w.ownsMap Tryz.prog 9 heldR mb gs.length (entsD gs) ∧ (∀ g ∈ gs, FileV w A g) := by
  obtain ⟨left, gs, hp, h2, h3, h4, h5, h6, h7⟩ := h
  exact ⟨left, gs, ⟨by rw [Lib.cell_of_heap hp]; rfl, by rw [Lib.cell_of_heap hp]; rfl, by rw [Lib.cell_of_heap hp]; rfl, by rw [Lib.cell_of_heap hp]; rfl, by rw [Lib.cell_of_heap hp]; rfl⟩, Lib.frozen_of_heap hp, h2, h3, h4, h5⟩
/-- what a look-up gives, in the model's words -/
theorem old_is {w : World} {A : Nat → Prop} {d : Dk} {gs : List G} (hgs : d.files = gs.map (·.1)) (hf : ∀ g ∈ gs, FileV w A g) (nm : List UInt8) : ∃ so sc, oldV gs nm = .agg #[.slice so (d.old nm).b.length sc, .int .i64 ((d.old nm).lasts : Int)] ∧ BytesV w A (.slice so (d.old nm).b.length sc) (d.old nm).b := by
  unfold oldV Dk.old
  rw [look_g hgs]
  cases hl : lookBy gname nm gs with
  | none => exact ⟨_, _, rfl, BytesV.nil w A⟩
  | some g =>
    obtain ⟨s, e, hb⟩ := hf g (lookBy_mem hl).1
    obtain ⟨ao, cap, rfl, _⟩ := id hb
    exact ⟨ao, cap, e, hb⟩
theorem there_g {d : Dk} {gs : List G} (hgs : d.files = gs.map (·.1)) (nm : List UInt8) : (lookBy gname nm gs).isSome = d.there nm := by
  unfold Dk.there; rw [look_g hgs, Option.isSome_map]
set_option maxHeartbeats 800000 in
set_option maxRecDepth 100000 in
theorem dthere (A : Nat → Prop) (p mb : Nat) (d : Dk) (nm : List UInt8) (w : World) (h : IsDisk w A p mb d) (hl : nm.length ≤ maxLen) :
    Calls Tryz.prog 52 #[.pointer (some ⟨p, 0, none⟩), .string ⟨nm.toArray⟩] w fun e w' => e = .returned (.bool (d.there nm)) ∧ Kp [] w.heap.size w w' := by
  obtain ⟨left, gs, ⟨c0, _⟩, _, _, hgs, hown, hf⟩ := h.cells
  obtain ⟨so, sc, hs, _⟩ := old_is hgs hf nm
  have ht := there_g hgs nm
  clear hgs hf h
  go_enter Tryz.func52, Tryz.ntmps52
  go_wp2_with (at_lookup; refine wpList_look_ok rfl _ _ rfl mb _ gs rfl hown nm rfl hl _ _ hs _ ht ?_)
  go_ret
  exact ⟨rfl, (Kp.refl _ _ _).alloc (Nat.le_refl _) _⟩

theorem dthere_nil (nm : List UInt8) (w : World) :
    Calls Tryz.prog 52 #[.pointer none, .string ⟨nm.toArray⟩] w fun e w' => e = .returned (.bool false) ∧ w = w' := by
  go_enter Tryz.func52, Tryz.ntmps52
  go_wp2
  go_ret
  exact ⟨rfl, rfl⟩
end Go.Proofs.YtdabflkejhoghaaGreat.Hand
namespace Go.Proofs.YtdabflkejhoghaaGreat.Hand
open Go Go.RowKit Go.Maps Go.WideMaps
set_option linter.unusedVariables false
theorem IsDisk.block {w w' : World} {A : Nat → Prop} {p mb : Nat} {d d' : Dk} (h : IsDisk w A p mb d) (hk : Kp [p] w.heap.size w w') {left : Int}
    (hp : w'.heap[p]? = some (.cells #[.map (some mb), .int .i64 (d'.room : Int), .bool d'.fuse.isSome, .int .i64 left, .bool d'.dead] 56 (0, 0)))
    (hl : -9223372036854775808 ≤ left ∧ left ≤ 9223372036854775807 ∧ ∀ k : Nat, d'.fuse = some k → left = k) (hf : d'.files = d.files) (ho : d'.Ok) : IsDisk w' A p mb d' := by
  have hlt := h.lt
  obtain ⟨left0, gs, h1, h2, h3, h4, h5, h6, h7⟩ := h
  exact ⟨left, gs, hp, hl, hf.trans h3, ownsMap_kept h4 (hk.block _ hlt.2 (by simpa using h6.1)), fun g hg => (h5 g hg).mono hk.size (fun k ha hl => ⟨ha, hk.block k hl (by simp; intro e; subst e; exact h6.2.1 ha)⟩), h6, ho⟩
theorem IsDisk.heap {w : World} {A : Nat → Prop} {p mb : Nat} {d : Dk} (h : IsDisk w A p mb d) : ∃ (left : Int), w.heap[p]? = some (.cells #[.map (some mb), .int .i64 (d.room : Int), .bool d.fuse.isSome, .int .i64 left, .bool d.dead] 56 (0, 0)) ∧
    (-9223372036854775808 ≤ left ∧ left ≤ 9223372036854775807 ∧ ∀ k : Nat, d.fuse = some k → left = k) := by
  obtain ⟨left, gs, h1, h2, _⟩ := h
  exact ⟨left, h1, h2⟩
theorem step_dead {d : Dk} (h : d.dead = true ∨ d.fuse = some 0) : d.step = (⟨d.files, d.room, d.fuse, true⟩, false) := by unfold Dk.step; rw [if_pos h]
theorem step_live {d : Dk} (h1 : d.dead = false) (h2 : d.fuse ≠ some 0) : d.step = (⟨d.files, d.room, d.fuse.map (· - 1), false⟩, true) := by
  unfold Dk.step; rw [if_neg (by simp [h1, h2])]
set_option maxHeartbeats 800000 in
set_option maxRecDepth 100000 in
theorem dstep (A : Nat → Prop) (p mb : Nat) (d : Dk) (w : World) (h : IsDisk w A p mb d) :
    Calls Tryz.prog 59 #[.pointer (some ⟨p, 0, none⟩)] w fun e w' => e = .returned (.bool d.step.2) ∧ IsDisk w' A p mb d.step.1 ∧ Kp [p] w.heap.size w w' := by
  have hstep := h.ok.step
  obtain ⟨left, hp, hl1, hl2, hl3⟩ := h.heap
  have H := Lib.hid h; have HP := Lib.hid hp
  have c2 : w.cell? ⟨p, 2, none⟩ = some (.bool d.fuse.isSome) := by rw [Lib.cell_of_heap hp]; rfl
  have c3 : w.cell? ⟨p, 3, none⟩ = some (.int .i64 left) := by rw [Lib.cell_of_heap hp]; rfl
  have c4 : w.cell? ⟨p, 4, none⟩ = some (.bool d.dead) := by rw [Lib.cell_of_heap hp]; rfl
  have f3 : w.frozen? ⟨p, 3, none⟩ = false := Lib.frozen_of_heap hp 3
  have f4 : w.frozen? ⟨p, 4, none⟩ = false := Lib.frozen_of_heap hp 4
  by_cases hd : d.dead = true ∨ d.fuse = some 0
  · rw [step_dead hd] at hstep ⊢
    have fin : ∀ w', w' = w.setCell ⟨p, 4, none⟩ (.bool true) → IsDisk w' A p mb ⟨d.files, d.room, d.fuse, true⟩ ∧ Kp [p] w.heap.size w w' := by
      rintro w' rfl
      have hk : Kp [p] w.heap.size w (w.setCell ⟨p, 4, none⟩ (.bool true)) := (Kp.refl _ _ _).setCell (.inr (by simp)) _ _ _
      exact ⟨H.out.block hk (by simp [World.setCell, Array.getElem?_modify, HP.out]) ⟨hl1, hl2, hl3⟩ rfl hstep, hk⟩
    have FIN := Lib.hid fin
    clear fin hstep h hp
    rcases Bool.eq_false_or_eq_true d.dead with h1 | h1
    · rw [h1] at c4
      clear hd hl3
      go_enter Tryz.func59, Tryz.ntmps59
      go_wp2
      go_ret
      exact ⟨rfl, FIN.out _ rfl⟩
    · have h2 : d.fuse = some 0 := hd.resolve_left (by simp [h1])
      have h3 : left = 0 := hl3 0 h2
      rw [h1] at c4
      have c2' : w.cell? ⟨p, 2, none⟩ = some (.bool true) := by rw [c2, h2]; rfl
      have c3' : w.cell? ⟨p, 3, none⟩ = some (.int .i64 0) := by rw [c3, h3]
      clear hd hl3 c2 c3 h2 h3
      go_enter Tryz.func59, Tryz.ntmps59
      go_wp2
      go_ret
      exact ⟨rfl, FIN.out _ rfl⟩
  · have h1 : d.dead = false := by cases hx : d.dead; rfl; exact absurd (Or.inl hx) hd
    have h2 : d.fuse ≠ some 0 := fun e => hd (.inr e)
    rw [step_live h1 h2] at hstep ⊢
    have fin : ∀ w' r, r = wrap64 (left - 1) → w' = w.setCell ⟨p, 3, none⟩ (.int .i64 r) → IsDisk w' A p mb ⟨d.files, d.room, d.fuse.map (· - 1), false⟩ ∧ Kp [p] w.heap.size w w' := by
      rintro w' r rfl rfl
      have hk : Kp [p] w.heap.size w (w.setCell ⟨p, 3, none⟩ (.int .i64 (wrap64 (left - 1)))) := (Kp.refl _ _ _).setCell (.inr (by simp)) _ _ _
      refine ⟨H.out.block hk (by simp [World.setCell, Array.getElem?_modify, HP.out, h1]) (left := wrap64 (left - 1)) ⟨by unfold wrap64; omega, by unfold wrap64; omega, ?_⟩ rfl hstep, hk⟩
      intro k hk
      cases hf : d.fuse with
      | none => rw [hf] at hk; cases hk
      | some j =>
        rw [hf] at hk h2
        have e := hl3 j hf
        have : j - 1 = k := by simpa using hk
        have : j ≠ 0 := fun e => h2 (by rw [e])
        unfold wrap64
        omega
    have FIN := Lib.hid fin
    clear fin hstep h hp hd
    rw [h1] at c4
    cases hf : d.fuse with
    | none =>
      rw [hf] at FIN c2
      replace c2 : w.cell? ⟨p, 2, none⟩ = some (.bool false) := c2
      clear hl3 h2 hf
      go_enter Tryz.func59, Tryz.ntmps59
      go_wp2
      go_ret
      exact ⟨rfl, FIN.out _ _ rfl rfl⟩
    | some j =>
      rw [hf] at FIN c2
      replace c2 : w.cell? ⟨p, 2, none⟩ = some (.bool true) := c2
      have hj : j ≠ 0 := fun e => h2 (by rw [hf, e])
      have e := hl3 j hf
      have hlt : ¬ left = 0 := by omega
      have hb : (left == 0) = false := by simpa using hlt
      have h0 : 0 < left := by omega
      clear hl3 h2 hf e
      go_enter Tryz.func59, Tryz.ntmps59
      go_wp2
      go_ret
      exact ⟨rfl, FIN.out _ _ (by unfold wrap64; omega) rfl⟩
end Go.Proofs.YtdabflkejhoghaaGreat.Hand
namespace Go.Proofs.YtdabflkejhoghaaGreat.Hand
open Go Go.RowKit Go.Maps Go.WideMaps
set_option linter.unusedVariables false
/-- bytes, as cells -/
def bcells (b : List UInt8) : List Value := b.map fun x => .int .u8 (x.toNat : Int)
theorem bcells_len (b : List UInt8) : (bcells b).length = b.length := by simp [bcells]
theorem BytesV.cap {w : World} {A : Nat → Prop} {so : Option Addr} {n sc : Nat} {b : List UInt8} (h : BytesV w A (.slice so n sc) b) : b.length ≤ sc ∧ n = b.length := by
  obtain ⟨ao, cap, e, h1, _⟩ := h
  cases e; exact ⟨h1, rfl⟩
theorem BytesV.alloc {w : World} {A : Nat → Prop} {v : Value} {b : List UInt8} (h : BytesV w A v b) (o : Obj) : BytesV (w.alloc o) A v b :=
  h.mono (by simp) (fun k ha hk => ⟨ha, Lib.alloc_old w o k hk⟩)
theorem _root_.Go.World.ownsRow.base {w : World} {B B' E n : Nat} {v : Value} {xs : List Value} (h : w.ownsRow B E 1 v n xs) (hB : B' ≤ B) : w.ownsRow B' E 1 v n xs := by
  obtain ⟨h0, h1⟩ := h
  refine ⟨h0, ?_⟩
  rcases h1 with h1 | ⟨g, cap, cur, e, hg, r⟩
  · exact .inl h1
  · exact .inr ⟨g, cap, cur, e, by omega, r⟩
/-- what came of a copy -/
def NewB (w : World) (b : List UInt8) (e : Ending) (w' : World) : Prop := ∃ v, e = .returned v ∧ w'.ownsRow w.heap.size 5 1 v b.length (bcells b) ∧ Below w.heap.size w w'
theorem dClone {A : Nat → Prop} {v : Value} {b : List UInt8} {w : World} (h : BytesV w A v b) (hb : b.length ≤ 140737488355328) : Calls Tryz.prog 53 #[v] w (NewB w b) := by
  obtain ⟨ao, cap, rfl, h1, h2, h3⟩ := h
  rcases h3 with ⟨rfl, rfl, rfl⟩ | ⟨a, rfl, _, hc⟩
  · exact (Tryz.bytes_Clone_nil 0 0 w).mono (fun e w' ⟨he, hw⟩ => ⟨_, he, ⟨rfl, .inl ⟨rfl, rfl⟩⟩, by subst hw; exact Below.refl _ _⟩)
  · refine (Tryz.bytes_Clone_at a b.length cap (b.map fun x => (x.toNat : Int)) w (by simp) hb (fun i hi => ?_)).mono (fun e w' ⟨v', he, ho, _, hbl⟩ => ⟨v', he, ?_, hbl⟩)
    · rw [hc i hi, List.getD_eq_getElem?_getD, List.getElem?_map, List.getElem?_eq_getElem hi]; rfl
    · have e : ((b.map fun x => (x.toNat : Int)).map (Value.int .u8)) = bcells b := by simp [bcells]
      rw [← e]; exact ho
/-- what Read answers -/
def ReadP (w : World) (d : Dk) (nm : List UInt8) (e : Ending) (w' : World) : Prop :=
  ∃ v, e = .returned (.tuple #[v, .bool (d.there nm)]) ∧ w'.ownsRow w.heap.size 5 1 v (d.old nm).b.length (bcells (d.old nm).b) ∧ Kp [] w.heap.size w w'
theorem old_none {d : Dk} {nm : List UInt8} (h : d.there nm = false) : d.old nm = ⟨nm, [], 0⟩ := by
  unfold Dk.there at h; unfold Dk.old
  cases hl : d.look nm with
  | none => rfl
  | some f => rw [hl] at h; cases h
theorem old_some {d : Dk} {nm : List UInt8} (h : d.there nm = true) : d.look nm = some (d.old nm) := by
  unfold Dk.there at h; unfold Dk.old
  cases hl : d.look nm with
  | none => rw [hl] at h; cases h
  | some f => rfl
theorem old_len {d : Dk} (ho : d.Ok) (nm : List UInt8) : (d.old nm).b.length ≤ 1048576 ∧ (d.old nm).lasts ≤ (d.old nm).b.length := by
  unfold Dk.old
  cases hl : d.look nm with
  | none => simp
  | some f =>
    have hm := (Dk.look_mem hl).1
    have h1 := used_mem hm
    have h2 := ho.used
    have h3 := ho.room
    exact ⟨by simp; omega, ho.lasts f hm⟩
theorem field0 (a b : Value) (w : World) : (Instr.field 93 (.agg #[a, b]) 0).run Tryz.prog w = .ok a w := by kernel_rfl
/-- what a walk needs of a disk to look a name up -/
theorem IsDisk.ready {w : World} {A : Nat → Prop} {p mb : Nat} {d : Dk} (h : IsDisk w A p mb d) (nm : List UInt8) : ∃ (gs : List G) (so : Option Addr) (sc : Nat), w.cell? ⟨p, 0, none⟩ = some (.map (some mb)) ∧ Hid (d.files = gs.map (·.1)) ∧
    w.ownsMap Tryz.prog 9 heldR mb gs.length (entsD gs) ∧ oldV gs nm = .agg #[.slice so (d.old nm).b.length sc, .int .i64 ((d.old nm).lasts : Int)] ∧ BytesV w A (.slice so (d.old nm).b.length sc) (d.old nm).b := by
  obtain ⟨left, gs, ⟨c0, _⟩, _, _, hgs, hown, hf⟩ := h.cells
  obtain ⟨so, sc, hs, hv⟩ := old_is hgs hf nm
  exact ⟨gs, so, sc, c0, Lib.hid hgs, hown, hs, hv⟩
set_option maxHeartbeats 800000 in
set_option maxRecDepth 100000 in
theorem dRead (A : Nat → Prop) (p mb : Nat) (d : Dk) (nm : List UInt8) (w : World) (h : IsDisk w A p mb d) (hl : nm.length ≤ maxLen) :
    Calls Tryz.prog 26 #[.pointer (some ⟨p, 0, none⟩), .string ⟨nm.toArray⟩] w (ReadP w d nm) := by
  by_cases ht : d.there nm = true
  · have hlb : (d.old nm).b.length ≤ 140737488355328 := by have := old_len h.ok nm; omega
    unfold ReadP
    have hfld := field0
    go_enter Tryz.func26, Tryz.ntmps26
    go_wp2_with (first
      | (go_at_call 52; (with_reducible refine (dthere A p mb d nm _ h hl).mono ?_); rintro e w1 ⟨rfl, hk⟩; rw [ht]; obtain ⟨gs, so, sc, c0, _, hown, hs, hv⟩ := (h.kp hk (Nat.le_refl _) (by simp)).ready nm; have HK := Lib.hid hk; clear hk)
      | (at_lookup; go_must (refine wpList_look rfl _ _ rfl mb _ gs rfl hown nm rfl hl _ _ hs ?_))
      | (go_at_call 53; go_must ((with_reducible refine (dClone hv hlb).mono ?_); rintro e w2 ⟨v, rfl, ho, hb⟩)))
    go_ret2
    exact ⟨v, by rw [ht]; rfl, ho.base HK.out.size, HK.out.trans (Kp.of_below hb HK.out.size)⟩
  · have ht : d.there nm = false := by simpa using ht
    unfold ReadP
    rw [old_none ht, ht]
    go_enter Tryz.func26, Tryz.ntmps26
    go_wp2_with (go_at_call 52; (with_reducible refine (dthere A p mb d nm _ h hl).mono ?_); rintro e w1 ⟨rfl, hk⟩; rw [ht])
    go_ret2
    exact ⟨_, rfl, ⟨rfl, .inl ⟨rfl, rfl⟩⟩, hk⟩
theorem dRead_nil (nm : List UInt8) (w : World) :
    Calls Tryz.prog 26 #[.pointer none, .string ⟨nm.toArray⟩] w fun e w' => e = .returned (.tuple #[.slice none 0 0, .bool false]) ∧ w = w' := by
  go_enter Tryz.func26, Tryz.ntmps26
  go_wp2_with (go_at_call 52; (with_reducible refine (dthere_nil nm _).mono ?_); rintro e w1 ⟨rfl, rfl⟩)
  go_ret2
  exact ⟨rfl, rfl⟩
set_option maxHeartbeats 800000 in
set_option maxRecDepth 100000 in
theorem dLasting (A : Nat → Prop) (p mb : Nat) (d : Dk) (nm : List UInt8) (w : World) (h : IsDisk w A p mb d) (hl : nm.length ≤ maxLen) :
    Calls Tryz.prog 27 #[.pointer (some ⟨p, 0, none⟩), .string ⟨nm.toArray⟩] w fun e w' => ∃ v, e = .returned v ∧ w'.ownsRow w.heap.size 5 1 v (d.old nm).last.length (bcells (d.old nm).last) ∧ Kp [] w.heap.size w w' := by
  by_cases ht : d.there nm = true
  · have hlen := old_len h.ok nm
    have hlb : ((d.old nm).b.take (d.old nm).lasts).length ≤ 140737488355328 := by simp; omega
    have hla : (d.old nm).last.length = (d.old nm).lasts := by unfold F.last; simp; omega
    go_enter Tryz.func27, Tryz.ntmps27
    go_wp2_with (first
      | (go_at_call 52; (with_reducible refine (dthere A p mb d nm _ h hl).mono ?_); rintro e w1 ⟨rfl, hk⟩; rw [ht]; obtain ⟨gs, so, sc, c0, _, hown, hs, hv⟩ := (h.kp hk (Nat.le_refl _) (by simp)).ready nm; have hsc : ((d.old nm).lasts : Int) ≤ (sc : Int) := (by have := hv.cap; omega); have HK := Lib.hid hk; clear hk)
      | (at_lookup; go_must (refine wpList_look rfl _ _ rfl mb _ gs rfl hown nm rfl hl _ _ hs ?_))
      | (go_at_call 53; go_must ((with_reducible refine (dClone ((hv.take (d.old nm).lasts hlen.2).alloc _) hlb).mono ?_); rintro e w2 ⟨v, rfl, ho, hb⟩)))
    go_ret
    exact ⟨v, rfl, ho.base (by have := HK.out.size; simp; omega), HK.out.trans (Kp.of_below (((Below.refl _ _).alloc (Nat.le_refl _) _).trans (hb.mono (by simp))) HK.out.size)⟩
  · have ht : d.there nm = false := by simpa using ht
    rw [old_none ht]
    go_enter Tryz.func27, Tryz.ntmps27
    go_wp2_with (go_at_call 52; (with_reducible refine (dthere A p mb d nm _ h hl).mono ?_); rintro e w1 ⟨rfl, hk⟩; rw [ht])
    go_ret
    exact ⟨_, rfl, ⟨rfl, .inl ⟨rfl, rfl⟩⟩, hk⟩
end Go.Proofs.YtdabflkejhoghaaGreat.Hand
namespace Go.Proofs.YtdabflkejhoghaaGreat.Hand
open Go Go.RowKit Go.Maps Go.WideMaps
set_option linter.unusedVariables false
set_option maxHeartbeats 800000 in
set_option maxRecDepth 100000 in
theorem dFuse (A : Nat → Prop) (p mb : Nat) (d : Dk) (n : Int) (w : World) (h : IsDisk w A p mb d) (hn : -9223372036854775808 ≤ n ∧ n ≤ 9223372036854775807) :
    Calls Tryz.prog 21 #[.pointer (some ⟨p, 0, none⟩), .int .i64 n] w fun e w' => e = .returned (.tuple #[]) ∧ IsDisk w' A p mb (d.setFuse n) ∧ Kp [p] w.heap.size w w' := by
  have hok := h.ok.setFuse n
  obtain ⟨left, hp, hl1, hl2, hl3⟩ := h.heap
  have H := Lib.hid h; have HP := Lib.hid hp
  have c4 : w.cell? ⟨p, 4, none⟩ = some (.bool d.dead) := by rw [Lib.cell_of_heap hp]; rfl
  have c2 : w.cell? ⟨p, 2, none⟩ = some (.bool d.fuse.isSome) := by rw [Lib.cell_of_heap hp]; rfl
  have c3 : w.cell? ⟨p, 3, none⟩ = some (.int .i64 left) := by rw [Lib.cell_of_heap hp]; rfl
  have f2 : w.frozen? ⟨p, 2, none⟩ = false := Lib.frozen_of_heap hp 2
  have f3 : w.frozen? ⟨p, 3, none⟩ = false := Lib.frozen_of_heap hp 3
  clear hp h hl3
  cases hd : d.dead with
  | true =>
    rw [hd] at c4
    have e : d.setFuse n = d := by unfold Dk.setFuse; rw [if_pos hd]
    rw [e]
    clear hd e hok
    go_enter Tryz.func21, Tryz.ntmps21
    go_wp2
    go_end0
    exact ⟨rfl, H.out, Kp.refl _ _ _⟩
  | false =>
    rw [hd] at c4
    have fin : ∀ w', w' = (w.setCell ⟨p, 2, none⟩ (.bool (decide (0 ≤ n)))).setCell ⟨p, 3, none⟩ (.int .i64 n) → IsDisk w' A p mb (d.setFuse n) ∧ Kp [p] w.heap.size w w' := by
      rintro w' rfl
      have hk : Kp [p] w.heap.size w ((w.setCell ⟨p, 2, none⟩ (.bool (decide (0 ≤ n)))).setCell ⟨p, 3, none⟩ (.int .i64 n)) := ((Kp.refl _ _ _).setCell (.inr (by simp)) _ _ _).setCell (.inr (by simp)) _ _ _
      refine ⟨H.out.block hk (left := n) ?_ ⟨hn.1, hn.2, ?_⟩ ?_ hok, hk⟩
      · simp only [World.setCell, Array.getElem?_modify, HP.out]
        unfold Dk.setFuse
        rw [hd]
        by_cases h0 : 0 ≤ n <;> simp [h0]
      · intro k hk
        unfold Dk.setFuse at hk
        rw [hd] at hk
        by_cases h0 : 0 ≤ n
        · simp [h0] at hk; omega
        · simp [h0] at hk
      · unfold Dk.setFuse; rw [hd]; rfl
    have FIN := Lib.hid fin
    clear hd fin hok
    by_cases h0 : 0 ≤ n
    · have e : decide (0 ≤ n) = true := decide_eq_true h0
      rw [e] at FIN
      clear e
      go_enter Tryz.func21, Tryz.ntmps21
      go_wp2
      go_end0
      exact ⟨rfl, FIN.out _ rfl⟩
    · have e : decide (0 ≤ n) = false := decide_eq_false h0
      have h1 : n < 0 := by omega
      rw [e] at FIN
      clear h0
      go_enter Tryz.func21, Tryz.ntmps21
      go_wp2
      go_end0
      exact ⟨rfl, FIN.out _ rfl⟩
theorem dFuse_nil (n : Int) (w : World) : Calls Tryz.prog 21 #[.pointer none, .int .i64 n] w fun e w' => e = .returned (.tuple #[]) ∧ w = w' := by
  go_enter Tryz.func21, Tryz.ntmps21
  go_wp2
  go_end0
  exact ⟨rfl, rfl⟩
end Go.Proofs.YtdabflkejhoghaaGreat.Hand
namespace Go.Proofs.YtdabflkejhoghaaGreat.Hand
open Go Go.RowKit Go.Maps Go.WideMaps
set_option linter.unusedVariables false
section
variable {w : World} {ops : Array Oper} {rest : List Oper} {o : Oper} {a : Act} {Q : Exit → Act → World → Prop}
/-- A range over a disk's files: one more. -/
theorem wpList_next_files (hg : o.guard = none) (it : Operand) (hop : o.op = Op.next it false) (b r n : Nat) (gs : List G) (hfs : ∀ g ∈ gs, ∃ so sc l, g.2 = .agg #[.slice so g.1.b.length sc, .int .i64 l])
    (left : Lit → Bool) (cnt : Nat) (hit : a.eval it = .pointer (some ⟨r, 0, none⟩)) (h : w.ranges Tryz.prog 9 heldR b r n (entsD gs) left cnt)
    (hDone : (∀ kl, left kl = false) → wpList Tryz.prog ops Q rest (a.put o.dst (.tuple #[.bool false])) w)
    (hMore : ∀ (g : G) (so : Option Addr) (sc : Nat) (l : Int) (w' : World) (cnt' : Nat), lookBy gname g.1.name gs = some g → left (.string g.1.name) = true → w'.ranges Tryz.prog 9 heldR b r n (entsD gs) (fun z => left z && !z.sameKey (.string g.1.name)) cnt' → cnt' < cnt →
      w.grownBy w' (some r) → w'.heap.size = w.heap.size → (Instr.entry (.pointer (some ⟨r, 0, none⟩))).run Tryz.prog w' = .ok (.tuple #[.string ⟨g.1.name.toArray⟩, .agg #[.slice so g.1.b.length sc, .int .i64 l]]) w' →
      wpList Tryz.prog ops Q rest (a.put o.dst (.tuple #[.bool true, .string ⟨g.1.name.toArray⟩, .agg #[.slice so g.1.b.length sc, .int .i64 l]])) w') :
    wpList Tryz.prog ops Q (o :: rest) a w := by
  refine wpList_next_ranges w hg it hop 9 law heldR (fun s : ByteArray => .string s) (fun v : Value => v) (fun key kl hkey => ?_) (fun v y hv => ⟨v, rfl⟩) b r n (entsD gs) left cnt hit h (fun _ hl => hDone hl)
    (fun s c kl y w' cnt' hkey hlk hv hat hrg hlt hgr hsz hen => ?_)
  · obtain ⟨s, e, _⟩ := string_of_keyOf Tryz.underlying9 hkey
    exact ⟨s, e⟩
  · obtain ⟨s', e, rfl, _⟩ := string_of_keyOf Tryz.underlying9 hkey
    cases e
    have hy : y = (.held c, []) := by simpa [heldR] using hv.symm
    subst hy
    have h1 := hat .nil
    rw [atKey_ents] at h1
    cases hl : lookBy gname s.data.toList gs with
    | none => rw [hl] at h1; cases h1
    | some g =>
      rw [hl] at h1
      have hc : g.2 = c := by simpa using h1
      obtain ⟨hm, hn⟩ := lookBy_mem hl
      obtain ⟨so, sc, l, e⟩ := hfs g hm
      have hn' : g.1.name = s.data.toList := hn
      have hs : s = ⟨g.1.name.toArray⟩ := by rw [hn']
      rw [← hn'] at hl hlk hrg
      rw [← hc, e, hs] at hen ⊢
      exact hMore g so sc l w' cnt' hl hlk hrg hlt hgr hsz hen
end
/-- those that have come -/
def come (left : Lit → Bool) (gs : List G) : List F := (gs.filter fun g => !left (.string g.1.name)).map (·.1)
theorem come_start (gs : List G) : come (Maps.has (entsD gs)) gs = [] := by
  unfold come
  rw [List.map_eq_nil_iff, List.filter_eq_nil_iff]
  intro g hg
  rw [has_ents]
  have : (lookBy gname g.1.name gs).isSome = true := by unfold lookBy; rw [List.find?_isSome]; exact ⟨g, hg, by simp [gname]⟩
  simp [this]
theorem come_end {left : Lit → Bool} (h : ∀ kl, left kl = false) (gs : List G) : come left gs = gs.map (·.1) := by
  unfold come
  rw [List.filter_eq_self.2 (fun g _ => by simp [h])]
theorem come_used {left : Lit → Bool} {gs : List G} {g : G} (hr : Rising gname gs) (hl : lookBy gname g.1.name gs = some g) (hlk : left (.string g.1.name) = true) :
    used (come (fun z => left z && !z.sameKey (.string g.1.name)) gs) = used (come left gs) + g.1.b.length := by
  obtain ⟨p, q, rfl, hn, hp, hq⟩ := split_of_look hr hl
  unfold come
  have e : ∀ l : List G, (∀ y ∈ l, gname y ≠ g.1.name) → l.filter (fun x => !(left (.string x.1.name) && !(Lit.string x.1.name).sameKey (.string g.1.name))) = l.filter fun x => !left (.string x.1.name) := by
    intro l h
    apply List.filter_congr
    intro x hx
    have : (Lit.string x.1.name).sameKey (.string g.1.name) = false := by
      show (x.1.name == g.1.name) = false
      have hh : x.1.name ≠ g.1.name := h x hx
      simpa using hh
    simp [this]
  have s : (Lit.string g.1.name).sameKey (.string g.1.name) = true := by show (g.1.name == g.1.name) = true; simp
  rw [List.filter_append, List.filter_append, e p hp, List.filter_cons, List.filter_cons, e q hq]
  rw [if_pos (by simp [s]), if_neg (by simp [hlk])]
  simp only [List.map_append, List.map_cons, used_append, used_cons]
  omega
theorem come_le {left : Lit → Bool} : ∀ gs : List G, used (come left gs) ≤ used (gs.map (·.1))
  | [] => Nat.le_refl _
  | g :: gs => by
    have := come_le (left := left) gs
    unfold come at this ⊢
    rw [List.filter_cons, List.map_cons, used_cons]
    split
    · rw [List.map_cons, used_cons]; omega
    · omega
theorem rising_g {d : Dk} {gs : List G} (h : d.files = gs.map (·.1)) (ho : d.Ok) : Rising gname gs := by
  have := ho.rising
  rw [h] at this
  unfold Rising at this ⊢
  rw [List.pairwise_map] at this
  exact this
set_option maxHeartbeats 1600000 in
set_option maxRecDepth 100000 in
theorem dUsed (A : Nat → Prop) (p mb : Nat) (d : Dk) (w : World) (h : IsDisk w A p mb d) :
    Calls Tryz.prog 65 #[.pointer (some ⟨p, 0, none⟩)] w fun e w' => e = .returned (.int .i64 (used d.files : Nat)) ∧ Kp [] w.heap.size w w' := by
  obtain ⟨left, gs, ⟨c0, _⟩, _, _, hgs, hown, hf⟩ := h.cells
  have hris := rising_g hgs h.ok
  have hu : used (gs.map (·.1)) ≤ 1048576 := by rw [← hgs]; have := h.ok.used; have := h.ok.room; omega
  have hfs : ∀ g ∈ gs, ∃ so sc l, g.2 = .agg #[.slice so g.1.b.length sc, .int .i64 l] := fun g hg => by
    obtain ⟨s, e, ao, cap, rfl, _⟩ := hf g hg
    exact ⟨ao, cap, _, e⟩
  rw [hgs]
  have HF := Lib.hid hfs
  have HR := Lib.hid hris
  clear hgs hf h hfs hris
  go_enter Tryz.func65, Tryz.ntmps65
  go_wp2_with (at_range; refine wpList_range_own _ rfl _ 54 rfl 9 93 law Tryz.underlying54 heldR mb _ _ rfl hown ?_; intro w0 hrg0 hg0 hs0)
  go_frame
  go_loopw [3] (fun v wr => ∃ (left : Lit → Bool) (cnt : Nat), wr.ranges Tryz.prog 9 heldR mb w.heap.size gs.length (entsD gs) left cnt ∧ v = .int .i64 (used (come left gs) : Nat) ∧ Kp [] w.heap.size w wr) (fun _ wr => wr.rangeLeft mb w.heap.size)
  case atStart => exact ⟨_, _, hrg0, by rw [come_start]; rfl, hg0.os, hg0.tape, hg0.output, hg0.size, fun k hk _ => hg0.block k hk (by simp)⟩
  case round =>
    obtain ⟨left, cnt, hrg, rfl, hkp⟩ := hrel
    have hle := come_le (left := left) gs
    have HKP := Lib.hid hkp
    clear hkp
    go_wp2_with (at_next; refine wpList_next_files rfl _ rfl mb w.heap.size _ gs HF.out left cnt rfl hrg ?_ ?_)
    · intro hl
      rw [come_end hl]
      go_wp2
      go_ret
      exact ⟨rfl, HKP.out⟩
    · intro gf gv so sc l w1 cnt1 hlook hlk hrg1 hlt hg1 hs1 hen
      have hcu := come_used (g := (gf, gv)) HR.out hlook hlk
      have hle1 := come_le (left := (fun z => left z && !z.sameKey (.string gf.name))) gs
      have hcu : used (come (fun z => left z && !z.sameKey (.string gf.name)) gs) = used (come left gs) + gf.b.length := hcu
      have HCU := Lib.hid hcu
      have HS1 := Lib.hid hs1
      have HLOOK := Lib.hid hlook
      have HLK := Lib.hid hlk
      have hsum : (used (come left gs) : Int) + (gf.b.length : Int) ≤ 1048576 := by omega
      clear hcu hs1 hlook hlk
      go_wp2
      go_roundw
      case rel => exact ⟨_, cnt1, hrg1.alloc _, by rw [HCU.out]; rfl, (HKP.out.trans ⟨hg1.os, hg1.tape, hg1.output, hg1.size, fun k hk _ => hg1.block k (by have := HKP.out.size; omega) (by simp; omega)⟩).alloc (by have := HKP.out.size; have := HS1.out; omega) _⟩
      case measure => rw [(hrg1.alloc _).left_eq, hrg.left_eq]; omega
end Go.Proofs.YtdabflkejhoghaaGreat.Hand
namespace Go.Proofs.YtdabflkejhoghaaGreat.Hand
open Go Go.RowKit Go.Maps Go.WideMaps Go.Sort Go.Shelf
set_option linter.unusedVariables false
/-- slices.Sort's two contracts at this dump, at the fence that asks nothing. (As the kit's lay-iter prints it.) -/
theorem sortsHere (m : Nat) : AnyZ.SortsIn Tryz.prog Tryz.sorted54_ren Fence.wide m :=
  ⟨fun blk off cap ss W hH hblk hsz => callsIn_wide.2 (AnyM.slices_Sort_string Tryz.sort77 blk off cap ss W hH hblk hsz),
   fun p cap W => callsIn_wide.2 (AnyM.slices_Sort_string_none Tryz.sort77 p cap W)⟩
theorem keysHere (mb : Option Nat) (W : World) : CallsIn Fence.wide 5 Tryz.prog 55 #[.map mb] W fun e w' => e = .returned (.func (.func 78) #[] #[.pointer (some ⟨W.heap.size, 0, none⟩)]) ∧ w' = W.alloc (.cells #[.map mb] 54) :=
  AnyZ.keys_in Tryz.keys55 Fence.wide 5 trivial rfl mb W
set_option maxHeartbeats 1000000 in
theorem sortedHere {H : Type} (b nn : Nat) (D0 : DataW H) (R : Value → Option (DataW H × List MemPlace)) (w : World) (hown : w.ownsMap Tryz.prog 9 R b nn D0) (hmax : Maps.size D0 ≤ maxLen) (hbytes : Maps.size D0 * 16 ≤ 140737488355328) :
    CallsIn Fence.wide 5 Tryz.prog 54 #[.func (.func 78) #[] #[.pointer (some ⟨w.heap.size, 0, none⟩)]] (w.alloc (.cells #[.map (some b)] 54)) fun e w' => ∃ (v : Value) (ss : List (List UInt8)), e = .returned v ∧ ss.Perm (strKeys D0) ∧
      w'.ownsRow (w.alloc (.cells #[.map (some b)] 54)).heap.size 9 1 v ss.length ((ss.mergeSort (fun x y => decide (x ≤ y))).map encStr) ∧ (v = .slice none 0 0 ↔ ss = []) ∧ Below (w.alloc (.cells #[.map (some b)] 54)).heap.size (w.alloc (.cells #[.map (some b)] 54)) w' := by
  have hbl := hown.lt
  have hseq : SeqGives Fence.wide 2 Tryz.prog 78 #[.pointer (some ⟨w.heap.size, 0, none⟩)] encStr (fun ss => ss.Perm (strKeys D0)) (Maps.size D0) (w.alloc (.cells #[.map (some b)] 54)) :=
    AnyZ.keys_gives (ρ := Tryz.keys55_ren) { Tryz.keys55 with } Fence.wide _ trivial rfl (by omega) w.heap.size b nn D0 _ (by simp) (by simp) (by
      obtain ⟨es, clock, hb, Ft, hs, hD⟩ := hown
      exact ⟨es, clock, (Below.heap_alloc _ _ b hbl).trans hb, Ft, hs, hD⟩)
  exact AnyZ.sorted_in Tryz.sorted54 Fence.wide 5 trivial trivial trivial trivial rfl (by omega) (sortsHere _) (enters_of Tryz.func77 (by kernel_rfl) rfl) 78 #[.pointer (some ⟨w.heap.size, 0, none⟩)] trivial (enters_of Tryz.func78 (by kernel_rfl) rfl) _ _ hmax hbytes _ hseq
theorem bb_lt : ∀ {a b : List UInt8}, bytesBefore a b = true → a < b
  | [], [], h => by cases h
  | [], y :: s, _ => List.nil_lt_cons y s
  | x :: r, [], h => by cases h
  | x :: r, y :: s, h => by
    rw [List.cons_lt_cons_iff]
    simp only [bytesBefore, Bool.or_eq_true, Bool.and_eq_true, decide_eq_true_eq, beq_iff_eq] at h
    rcases h with h | ⟨rfl, h⟩
    · exact .inl h
    · exact .inr ⟨rfl, bb_lt h⟩
/-- sorted texts, in whatever order they came -/
theorem sorted_names {ss l : List (List UInt8)} (hp : ss.Perm l) (hl : l.Pairwise fun a b => bytesBefore a b = true) : ss.mergeSort (fun x y => decide (x ≤ y)) = l := by
  refine List.Perm.eq_of_pairwise (le := fun a b => decide (a ≤ b) = true) (fun a b _ _ h1 h2 => ?_) (List.pairwise_mergeSort (fun a b c h1 h2 => ?_) (fun a b => ?_) ss) (hl.imp fun h => ?_) ((List.mergeSort_perm ss _).trans hp)
  · exact List.le_antisymm (of_decide_eq_true h1) (of_decide_eq_true h2)
  · exact decide_eq_true (List.le_trans (of_decide_eq_true h1) (of_decide_eq_true h2))
  · rcases List.le_total a b with h | h <;> simp [h]
  · exact decide_eq_true (List.le_of_lt (bb_lt h))
theorem strKeys_ents (gs : List G) : strKeys (entsD gs) = gs.map fun g => g.1.name := by
  show (gs.map ent).map (fun p => strOf p.1) = _
  rw [List.map_map]
  rfl
def names (l : List F) : List (List UInt8) := l.map F.name
/-- what Names answers -/
def NamesP (w : World) (d : Dk) (e : Ending) (w' : World) : Prop := ∃ v, e = .returned v ∧ w'.ownsRow w.heap.size 9 1 v d.files.length ((names d.files).map encStr) ∧ Kp [] w.heap.size w w'
set_option maxHeartbeats 1000000 in
set_option maxRecDepth 100000 in
theorem dNames (A : Nat → Prop) (p mb : Nat) (d : Dk) (w : World) (h : IsDisk w A p mb d) :
    Calls Tryz.prog 28 #[.pointer (some ⟨p, 0, none⟩)] w (NamesP w d) := by
  obtain ⟨left, gs, ⟨c0, _⟩, _, _, hgs, hown, hf⟩ := h.cells
  have hris := rising_g hgs h.ok
  have hfew : gs.length ≤ 8 := by have := h.ok.few; rw [hgs] at this; simpa using this
  have hsz := size_ents gs
  have hnm : names d.files = gs.map fun g => g.1.name := by unfold names; rw [hgs, List.map_map]; rfl
  have fin : ∀ ss : List (List UInt8), ss.Perm (strKeys (entsD gs)) → ss.length = d.files.length ∧ ss.mergeSort (fun x y => decide (x ≤ y)) = names d.files := fun ss hp => by
    rw [strKeys_ents, ← hnm] at hp
    refine ⟨by rw [hp.length_eq]; simp [names], sorted_names hp ?_⟩
    rw [hnm, List.pairwise_map]; exact hris
  have H1 : Maps.size (entsD gs) ≤ maxLen := by rw [hsz]; unfold maxLen; omega
  have H2 : Maps.size (entsD gs) * 16 ≤ 140737488355328 := by rw [hsz]; omega
  have FIN := Lib.hid fin
  clear hgs hf h hris hfew hsz hnm fin
  unfold NamesP
  refine (callsIn_wide (n := 6)).1 ?_
  have hfK : Fence.wide.fn 55 := trivial
  have hfS : Fence.wide.fn 54 := trivial
  refine callsIn_of_wp Tryz.func28 rfl trivial ?_ rfl
  simp only [Tryz.ntmps28, List.size_toArray, List.length_cons, List.length_nil, Nat.reduceAdd, Nat.reduceSub, Array.replicate_succ, Array.replicate_zero, List.push_toArray, List.append_toArray, List.nil_append, List.cons_append]
  gi_wp2_with (first
    | (gi_at_call 55; refine (keysHere _ _).mono ?_; rintro e w' ⟨rfl, rfl⟩)
    | (gi_at_call 54; refine (sortedHere mb _ (entsD gs) heldR w hown H1 H2).mono ?_; rintro e w' ⟨v, ss, rfl, hS, hrow, _, hb⟩))
  go_ret
  obtain ⟨e1, e2⟩ := FIN.out ss hS
  rw [e1, e2] at hrow
  exact ⟨v, rfl, hrow.base (by simp), (Kp.of_below ((Below.refl _ w).alloc (Nat.le_refl _) _) (Nat.le_refl _)).trans (Kp.of_below hb (by simp))⟩
theorem dNames_nil (w : World) : Calls Tryz.prog 28 #[.pointer none] w fun e w' => e = .returned (.slice none 0 0) ∧ w = w' := by
  go_enter Tryz.func28, Tryz.ntmps28
  go_wp2
  go_ret
  exact ⟨rfl, rfl⟩
theorem dUsed_nil (w : World) : Calls Tryz.prog 65 #[.pointer none] w fun e w' => e = .returned (.int .i64 0) ∧ w = w' := by
  go_enter Tryz.func65, Tryz.ntmps65
  go_wp2
  go_ret
  exact ⟨rfl, rfl⟩
end Go.Proofs.YtdabflkejhoghaaGreat.Hand
namespace Go.Proofs.YtdabflkejhoghaaGreat.Hand
open Go Go.RowKit Go.Maps Go.WideMaps
set_option linter.unusedVariables false
/-- A disk whose map has turned. -/
theorem IsDisk.mapped {w w' : World} {A : Nat → Prop} {p mb n : Nat} {d d' : Dk} {gs : List G} (h : IsDisk w A p mb d) (hk : Kp [mb] w.heap.size w w') (hm : w'.ownsMap Tryz.prog 9 heldR mb n (entsD gs)) (hgs : d'.files = gs.map (·.1)) (hf : ∀ g ∈ gs, FileV w' A g)
    (e : d' = ⟨d'.files, d.room, d.fuse, d.dead⟩) (ho : d'.Ok) : IsDisk w' A p mb d' := by
  have hlt := h.lt
  obtain ⟨left, gs0, h1, h2, _, _, _, h6, _⟩ := h
  refine ⟨left, gs, ?_, ?_, hgs, ownsMap_ents hm, hf, h6, ho⟩
  · rw [hk.block p hlt.1 (by simpa using fun e => h6.1 e.symm), h1]
    rw [e]
  · rw [e]; exact h2
theorem IsDisk.dropped {w w' : World} {A : Nat → Prop} {p mb : Nat} {d : Dk} {gs : List G} (h : IsDisk w A p mb d) (hgs : d.files = gs.map (·.1)) (hf : ∀ g ∈ gs, FileV w A g) (nm : List UInt8) {n : Nat} (hm : w'.ownsMap Tryz.prog 9 heldR mb n ((entsD gs).del (.string nm))) (hk : Kp [mb] w.heap.size w w') :
    IsDisk w' A p mb (d.dropped nm) := by
  rw [del_ents] at hm
  have hmb := h.lt.2
  have hA := h
  obtain ⟨_, _, _, _, _, _, _, h6, _⟩ := hA
  refine h.mapped hk hm ?_ (fun g hg => (hf g (mem_delBy.1 hg).1).mono hk.size (fun k ha hl => ⟨ha, hk.block k hl (fun e => h6.2.2 (by simp at e; subst e; exact ha))⟩)) rfl (h.ok.dropped nm)
  show delBy F.name nm d.files = _
  rw [hgs]; exact map_delBy (nm := gname) (nm' := F.name) (fun g : G => g.1) (fun _ => rfl) nm gs
theorem kp_turned {w w' : World} {b B : Nat} (h : w.mapTurned w' b) : Kp [b] B w w' := by
  have hg := h.grown
  exact ⟨hg.os, hg.tape, hg.output, hg.size, fun k _ hn => by
    by_cases hk : k < w.heap.size
    · exact hg.block k hk (by simpa using hn)
    · obtain ⟨es, clock, es', clock', hb, rfl⟩ := h
      have : b ≠ k := fun e => hn (by simp [e])
      simp [ChangeMaps.setBlock, this]⟩
set_option maxHeartbeats 800000 in
set_option maxRecDepth 100000 in
theorem dDrop (A : Nat → Prop) (p mb : Nat) (d : Dk) (nm : List UInt8) (w : World) (h : IsDisk w A p mb d) (hl : nm.length ≤ maxLen) :
    Calls Tryz.prog 35 #[.pointer (some ⟨p, 0, none⟩), .string ⟨nm.toArray⟩] w fun e w' => e = .returned (.bool (d.drop nm).2) ∧ IsDisk w' A p mb (d.drop nm).1 ∧ Kp [p, mb] w.heap.size w w' := by
  cases ht : d.look nm with
  | none =>
    have hth : d.there nm = false := by unfold Dk.there; rw [ht]; rfl
    have e : d.drop nm = (d, false) := by unfold Dk.drop; rw [ht]
    rw [e]
    go_enter Tryz.func35, Tryz.ntmps35
    go_wp2_with (go_at_call 52; (with_reducible refine (dthere A p mb d nm _ h hl).mono ?_); rintro e w1 ⟨rfl, hk⟩; rw [hth])
    go_ret
    exact ⟨rfl, h.kp hk (Nat.le_refl _) (by simp), hk.mono (by simp) (Nat.le_refl _)⟩
  | some f =>
    have hth : d.there nm = true := by unfold Dk.there; rw [ht]; rfl
    cases hs : d.step.2 with
    | false =>
      have e : d.drop nm = (d.step.1, false) := by unfold Dk.drop; rw [ht]; simp [hs]
      rw [e]
      go_enter Tryz.func35, Tryz.ntmps35
      go_wp2_with (first
        | (go_at_call 52; (with_reducible refine (dthere A p mb d nm _ h hl).mono ?_); rintro e w1 ⟨rfl, hk⟩; rw [hth]; have h1 := h.kp hk (Nat.le_refl _) (by simp); have HK := Lib.hid hk; clear hk)
        | (go_at_call 59; (with_reducible refine (dstep A p mb d _ h1).mono ?_); rintro e w2 ⟨rfl, h2, hk2⟩; rw [hs]))
      go_ret
      exact ⟨rfl, h2, (HK.out.mono (by simp) (Nat.le_refl _)).trans (hk2.mono (by simp) HK.out.size)⟩
    | true =>
      have e : d.drop nm = (d.step.1.dropped nm, true) := by unfold Dk.drop; rw [ht]; simp [hs]
      rw [e]
      clear e
      go_enter Tryz.func35, Tryz.ntmps35
      go_wp2_with (first
        | (go_at_call 52; (with_reducible refine (dthere A p mb d nm _ h hl).mono ?_); rintro e w1 ⟨rfl, hk⟩; rw [hth]; have h1 := h.kp hk (Nat.le_refl _) (by simp); have HK := Lib.hid hk; clear hk)
        | (go_at_call 59; (with_reducible refine (dstep A p mb d _ h1).mono ?_); rintro e w2 ⟨rfl, h2, hk2⟩; rw [hs]; obtain ⟨left, gs, ⟨c0, _⟩, _, _, hgs, hown, hf⟩ := h2.cells; have HGS := Lib.hid hgs; have HF := Lib.hid hf; clear hgs hf)
        | (at_delete; go_must (refine wpList_delete_own _ rfl _ _ 54 9 rfl 93 law Tryz.underlying54 heldR mb _ _ rfl hown _ _ rfl (hkey hl) ?_; intro w3 hown3 hturn3)))
      go_ret
      exact ⟨rfl, h2.dropped HGS.out HF.out nm hown3 (kp_turned hturn3), ((HK.out.mono (by simp) (Nat.le_refl _)).trans (hk2.mono (by simp) HK.out.size)).trans ((kp_turned hturn3).mono (by simp) (Nat.le_refl _))⟩
end Go.Proofs.YtdabflkejhoghaaGreat.Hand
namespace Go.Proofs.YtdabflkejhoghaaGreat.Hand
open Go Go.RowKit Go.Maps Go.WideMaps
set_option linter.unusedVariables false
theorem IsDisk.putted {w w' : World} {A : Nat → Prop} {p mb : Nat} {d d' : Dk} {gs : List G} (h : IsDisk w A p mb d) (hgs : d.files = gs.map (·.1)) (hf : ∀ g ∈ gs, FileV w A g) (g : G) {nm : List UInt8} {v : Value} {n : Nat} (hn : nm = g.1.name) (hv : v = g.2)
    (hm : w'.ownsMap Tryz.prog 9 heldR mb n ((entsD gs).put (.string nm) (.held v))) (hk : Kp [mb] w.heap.size w w') (hg : FileV w' A g)
    (e : d' = ⟨putBy F.name g.1 d.files, d.room, d.fuse, d.dead⟩) (ho : d'.Ok) : IsDisk w' A p mb d' := by
  rw [put_ents' g gs nm v hn hv] at hm
  have hA := h
  obtain ⟨_, _, _, _, _, _, _, h6, _⟩ := hA
  refine h.mapped hk hm ?_ (fun x hx => ?_) (by rw [e]) ho
  · rw [e]
    show putBy F.name g.1 d.files = _
    rw [hgs]; exact map_putBy (nm := gname) (nm' := F.name) (fun g : G => g.1) (fun _ => rfl) g gs
  · rcases mem_putBy hx with rfl | hx
    · exact hg
    · exact (hf x hx).mono hk.size (fun k ha hl => ⟨ha, hk.block k hl (fun e => h6.2.2 (by simp at e; subst e; exact ha))⟩)
theorem few_g {d : Dk} {gs : List G} (h : d.files = gs.map (·.1)) (ho : d.Ok) : gs.length < maxLen := by
  have := ho.few
  rw [h] at this
  simp at this
  unfold maxLen; omega
theorem wpList_put {w : World} {ops : Array Oper} {rest : List Oper} {o : Oper} {a : Act} {Q : Exit → Act → World → Prop} (hg : o.guard = none) (m x v : Operand) (hop : o.op = Op.mapUpdate 54 m x v) (mb n : Nat) (gs : List G) (hm : a.eval m = .map (some mb))
    (hown : w.ownsMap Tryz.prog 9 heldR mb n (entsD gs)) (hn : n < maxLen) (nm : List UInt8) (hx : a.eval x = .string ⟨nm.toArray⟩) (hl : nm.length ≤ maxLen) (val : Value) (hv : a.eval v = val)
    (hK : ∀ w', w'.ownsMap Tryz.prog 9 heldR mb (n + 1) ((entsD gs).put (.string nm) (.held val)) → Kp [mb] w.heap.size w w' → wpList Tryz.prog ops Q rest (a.put o.dst undef) w') : wpList Tryz.prog ops Q (o :: rest) a w :=
  wpList_mapUpdate_in w hg m x v 54 hop 9 93 law Tryz.underlying54 heldR mb n (entsD gs) hm hown hn _ val (.string nm) hx hv (hkey hl) (.held val) [] rfl (fun w' h1 h2 => hK w' h1 (kp_turned h2))
theorem IsDisk.kp_ge {w w' : World} {A : Nat → Prop} {p mb : Nat} {d : Dk} (h : IsDisk w A p mb d) (hk : Kp [] w.heap.size w w') : IsDisk w' A p mb d := h.kp hk (Nat.le_refl _) (by simp)
theorem BytesV.kp {w w' : World} {A : Nat → Prop} {v : Value} {b : List UInt8} (h : BytesV w A v b) {L : List Nat} (hk : Kp L w.heap.size w w') (hL : ∀ k ∈ L, ¬ A k) : BytesV w' A v b :=
  h.mono hk.size (fun k ha hl => ⟨ha, hk.block k hl (fun e => hL k e ha)⟩)
theorem IsDisk.apart {w : World} {A : Nat → Prop} {p mb : Nat} {d : Dk} (h : IsDisk w A p mb d) : mb ≠ p ∧ ¬ A p ∧ ¬ A mb := by
  obtain ⟨_, _, _, _, _, _, _, h6, _⟩ := h; exact h6
theorem IsDisk.files {w : World} {A : Nat → Prop} {p mb : Nat} {d : Dk} (h : IsDisk w A p mb d) {gs : List G} (hgs : d.files = gs.map (·.1)) (hown : w.ownsMap Tryz.prog 9 heldR mb gs.length (entsD gs)) : ∀ g ∈ gs, FileV w A g := by
  obtain ⟨_, gs', _, _, hgs', hown', hf, _, _⟩ := h
  have e : entsD gs = entsD gs' := by
    obtain ⟨es, c, hb, _, _, e1⟩ := hown
    obtain ⟨es', c', hb', _, _, e2⟩ := hown'
    rw [hb] at hb'
    cases hb'
    rw [e1, e2]
  have e2 : gs = gs' := by
    have h1 : gs.map ent = gs'.map ent := by simpa [entsD] using e
    have h3 : gs.map (·.2) = gs'.map (·.2) := by
      have := congrArg (List.map fun x : Lit × DataW Value => match x.2 with | .held v => v | _ => undef) h1
      simpa [ent, Function.comp_def] using this
    have h2 : gs.map (·.1) = gs'.map (·.1) := hgs.symm.trans hgs'
    have hl : gs.length = gs'.length := by simpa using congrArg List.length h2
    apply List.ext_getElem hl
    intro i hi hi'
    have a1 : (gs.map (·.1))[i]'(by simpa using hi) = (gs'.map (·.1))[i]'(by simpa using hi') := by simp only [h2]
    have a2 : (gs.map (·.2))[i]'(by simpa using hi) = (gs'.map (·.2))[i]'(by simpa using hi') := by simp only [h3]
    simp only [List.getElem_map] at a1 a2
    exact Prod.ext a1 a2
  rw [e2]; exact hf
set_option maxHeartbeats 800000 in
set_option maxRecDepth 100000 in
theorem dSync (A : Nat → Prop) (p mb : Nat) (d : Dk) (nm : List UInt8) (w : World) (h : IsDisk w A p mb d) (hl : nm.length ≤ maxLen) :
    Calls Tryz.prog 41 #[.pointer (some ⟨p, 0, none⟩), .string ⟨nm.toArray⟩] w fun e w' => e = .returned (.bool (d.sync nm).2) ∧ IsDisk w' A p mb (d.sync nm).1 ∧ Kp [p, mb] w.heap.size w w' := by
  cases ht : d.look nm with
  | none =>
    have hth : d.there nm = false := by unfold Dk.there; rw [ht]; rfl
    have e : d.sync nm = (d, false) := by unfold Dk.sync; rw [ht]
    rw [e]
    go_enter Tryz.func41, Tryz.ntmps41
    go_wp2_with (go_at_call 52; (with_reducible refine (dthere A p mb d nm _ h hl).mono ?_); rintro e w1 ⟨rfl, hk⟩; rw [hth])
    go_ret
    exact ⟨rfl, h.kp hk (Nat.le_refl _) (by simp), hk.mono (by simp) (Nat.le_refl _)⟩
  | some f =>
    have hth : d.there nm = true := by unfold Dk.there; rw [ht]; rfl
    cases hs : d.step.2 with
    | false =>
      have e : d.sync nm = (d.step.1, false) := by unfold Dk.sync; rw [ht]; simp [hs]
      rw [e]
      go_enter Tryz.func41, Tryz.ntmps41
      go_wp2_with (first
        | (go_at_call 52; (with_reducible refine (dthere A p mb d nm _ h hl).mono ?_); rintro e w1 ⟨rfl, hk⟩; rw [hth]; have h1 := h.kp hk (Nat.le_refl _) (by simp); have HK := Lib.hid hk; clear hk)
        | (go_at_call 59; (with_reducible refine (dstep A p mb d _ h1).mono ?_); rintro e w2 ⟨rfl, h2, hk2⟩; rw [hs]))
      go_ret
      exact ⟨rfl, h2, (HK.out.mono (by simp) (Nat.le_refl _)).trans (hk2.mono (by simp) HK.out.size)⟩
    | true =>
      have e : d.sync nm = (d.step.1.synced f, true) := by unfold Dk.sync; rw [ht]; simp [hs]
      have hok : (d.step.1.synced f).Ok := h.ok.step.synced (nm := nm) (by rw [d.look_step, ht])
      have hold : d.step.1.old nm = f := by unfold Dk.old; rw [d.look_step, ht]; rfl
      have hfn := (Dk.look_mem ht).2
      rw [e]
      clear e
      go_enter Tryz.func41, Tryz.ntmps41
      go_wp2_with (first
        | (go_at_call 52; (with_reducible refine (dthere A p mb d nm _ h hl).mono ?_); rintro e w1 ⟨rfl, hk⟩; rw [hth]; have h1 := h.kp hk (Nat.le_refl _) (by simp); have HK := Lib.hid hk; clear hk)
        | (go_at_call 59; (with_reducible refine (dstep A p mb d _ h1).mono ?_); rintro e w2 ⟨rfl, h2, hk2⟩; rw [hs]; obtain ⟨gs, so, sc, c0, HGS, hown, hlo, hv⟩ := h2.ready nm; rw [hold] at hlo hv; have HK2 := Lib.hid hk2; clear hk2)
        | (at_lookup; go_must (refine wpList_look rfl _ _ rfl mb _ gs rfl hown nm rfl hl _ _ hlo ?_)))
      obtain ⟨w3, hw3⟩ : ∃ w3, w3 = (w2.alloc (.cells #[.slice so f.b.length sc, .int .i64 (f.lasts : Int)] 93)).drew := ⟨_, rfl⟩
      have d0 : w3.cell? ⟨p, 0, none⟩ = some (.map (some mb)) := by rw [hw3]; exact (World.cell?_alloc_past _ _ _ h2.lt.1).trans c0
      have k0 : w3.cell? ⟨w2.heap.size, 0, none⟩ = some (.slice so f.b.length sc) := by rw [hw3]; go_simp
      have HW3 := Lib.hid hw3
      refine wp_region_still_tail 11 (by kernel_rfl) (by kernel_rfl) ?_
      simp only [List.take_succ_cons, List.take_zero, List.drop_succ_cons, List.drop_zero]
      change wpStill _ _ (World.drew _) (fun a' => wpList _ _ _ _ a' (World.drew _)) _ _
      rw [← hw3]
      clear hw3
      have hown3 : w3.ownsMap Tryz.prog 9 heldR mb gs.length (entsD gs) := by rw [HW3.out]; exact (hown.alloc _).drew
      have hn := few_g HGS.out h.ok.step
      repeat still_step
      refine wpStill_nil ?_
      go_wp2_with (at_mapUpdate; go_must (refine wpList_put rfl _ _ _ rfl mb _ gs rfl hown3 hn nm rfl hl (.agg #[.slice so f.b.length sc, .int .i64 (f.b.length : Int)]) rfl ?_; intro w4 hown4 hk4))
      go_ret
      have hk3 : Kp [] w2.heap.size w2 w3 := by rw [HW3.out]; exact ((Kp.refl _ _ _).alloc (Nat.le_refl _) _).drew 1
      have h3 := h2.kp_ge hk3
      have hA := h3.apart
      have hv4 : BytesV w4 A (.slice so f.b.length sc) f.b := (hv.kp hk3 (by simp)).kp hk4 (by simpa using hA.2.2)
      refine ⟨rfl, h3.putted HGS.out (h3.files HGS.out hown3) (⟨f.name, f.b, f.b.length⟩, .agg #[.slice so f.b.length sc, .int .i64 (f.b.length : Int)]) hfn.symm rfl hown4 hk4 ⟨_, rfl, hv4⟩ rfl hok, ?_⟩
      exact (((HK.out.mono (by simp) (Nat.le_refl _)).trans (HK2.out.mono (by simp) HK.out.size)).trans (hk3.mono (by simp) (Nat.le_trans HK.out.size HK2.out.size))).trans (hk4.mono (by simp) (Nat.le_trans HK.out.size (Nat.le_trans HK2.out.size hk3.size)))
end Go.Proofs.YtdabflkejhoghaaGreat.Hand
namespace Go.Proofs.YtdabflkejhoghaaGreat.Hand
open Go Go.RowKit Go.Maps Go.WideMaps
set_option linter.unusedVariables false
set_option maxHeartbeats 1600000 in
set_option maxRecDepth 100000 in
theorem dRename (A : Nat → Prop) (p mb : Nat) (d : Dk) (nm tn : List UInt8) (w : World) (h : IsDisk w A p mb d) (hl : nm.length ≤ maxLen) (hlt : tn.length ≤ maxLen) :
    Calls Tryz.prog 61 #[.pointer (some ⟨p, 0, none⟩), .string ⟨nm.toArray⟩, .string ⟨tn.toArray⟩] w fun e w' => e = .returned (.bool (d.rename nm tn).2) ∧ IsDisk w' A p mb (d.rename nm tn).1 ∧ Kp [p, mb] w.heap.size w w' := by
  cases ht : d.look nm with
  | none =>
    have hth : d.there nm = false := by unfold Dk.there; rw [ht]; rfl
    have e : d.rename nm tn = (d, false) := by unfold Dk.rename; rw [ht]
    rw [e]
    go_enter Tryz.func61, Tryz.ntmps61
    go_wp2_with (go_at_call 52; (with_reducible refine (dthere A p mb d nm _ h hl).mono ?_); rintro e w1 ⟨rfl, hk⟩; rw [hth])
    go_ret
    exact ⟨rfl, h.kp hk (Nat.le_refl _) (by simp), hk.mono (by simp) (Nat.le_refl _)⟩
  | some f =>
    have hth : d.there nm = true := by unfold Dk.there; rw [ht]; rfl
    cases hn : named tn with
    | false =>
      have e : d.rename nm tn = (d, false) := by unfold Dk.rename; rw [ht]; simp [hn]
      rw [e]
      go_enter Tryz.func61, Tryz.ntmps61
      go_wp2_with (first
        | (go_at_call 52; (with_reducible refine (dthere A p mb d nm _ h hl).mono ?_); rintro e w1 ⟨rfl, hk⟩; rw [hth]; have h1 := h.kp hk (Nat.le_refl _) (by simp); have HK := Lib.hid hk; clear hk)
        | (go_at_call 64; (with_reducible refine (dnamed tn _ hlt).mono ?_); rintro e w2 ⟨rfl, rfl⟩; rw [hn]))
      go_ret
      exact ⟨rfl, h1, HK.out.mono (by simp) (Nat.le_refl _)⟩
    | true =>
    cases hs : d.step.2 with
    | false =>
      have e : d.rename nm tn = (d.step.1, false) := by unfold Dk.rename; rw [ht]; simp [hs, hn]
      rw [e]
      go_enter Tryz.func61, Tryz.ntmps61
      go_wp2_with (first
        | (go_at_call 52; (with_reducible refine (dthere A p mb d nm _ h hl).mono ?_); rintro e w1 ⟨rfl, hk⟩; rw [hth]; have h1 := h.kp hk (Nat.le_refl _) (by simp); have HK := Lib.hid hk; clear hk)
        | (go_at_call 64; (with_reducible refine (dnamed tn _ hlt).mono ?_); rintro e w2 ⟨rfl, rfl⟩; rw [hn])
        | (go_at_call 59; (with_reducible refine (dstep A p mb d _ h1).mono ?_); rintro e w2 ⟨rfl, h2, hk2⟩; rw [hs]))
      go_ret
      exact ⟨rfl, h2, (HK.out.mono (by simp) (Nat.le_refl _)).trans (hk2.mono (by simp) HK.out.size)⟩
    | true =>
      have e : d.rename nm tn = (d.step.1.moved f tn, true) := by unfold Dk.rename; rw [ht]; simp [hs, hn]
      have hlk : d.step.1.look nm = some f := by rw [d.look_step, ht]
      have hok : (d.step.1.moved f tn).Ok := h.ok.step.moved (fr := nm) hlk hn
      have hold : d.step.1.old nm = f := by unfold Dk.old; rw [hlk]; rfl
      have hfn := (Dk.look_mem ht).2
      rw [e]
      clear e
      go_enter Tryz.func61, Tryz.ntmps61
      go_wp2_with (first
        | (go_at_call 52; (with_reducible refine (dthere A p mb d nm _ h hl).mono ?_); rintro e w1 ⟨rfl, hk⟩; rw [hth]; have h1 := h.kp hk (Nat.le_refl _) (by simp); have HK := Lib.hid hk; clear hk)
        | (go_at_call 64; (with_reducible refine (dnamed tn _ hlt).mono ?_); rintro e w2 ⟨rfl, rfl⟩; rw [hn])
        | (go_at_call 59; (with_reducible refine (dstep A p mb d _ h1).mono ?_); rintro e w2 ⟨rfl, h2, hk2⟩; rw [hs]; obtain ⟨gs, so, sc, c0, HGS, hown, hlo, hv⟩ := h2.ready nm; rw [hold] at hlo hv; have hpl := h2.lt.1; have HK2 := Lib.hid hk2; clear hk2)
        | (at_lookup; go_must (refine wpList_look rfl _ _ rfl mb _ gs rfl hown nm rfl hl _ _ hlo ?_))
        | (at_delete; go_must (refine wpList_delete_own _ rfl _ _ 54 9 rfl 93 law Tryz.underlying54 heldR mb _ _ rfl (hown.alloc _) _ _ rfl (hkey hl) ?_; intro w3 hown3 hturn3)))
      have hk3 : Kp [mb] w2.heap.size w2 w3 := ((Kp.refl [mb] w2.heap.size w2).alloc (Nat.le_refl _) _).trans ((kp_turned hturn3).mono (by simp) (Nat.le_refl _))
      have hA := h2.apart
      have hsz := hk3.size
      have h3 : IsDisk w3 A p mb (d.step.1.dropped nm) := (h2.kp_ge ((Kp.refl _ _ _).alloc (Nat.le_refl _) _)).dropped HGS.out ((h2.kp_ge ((Kp.refl _ _ _).alloc (Nat.le_refl _) _)).files HGS.out (hown.alloc _)) nm hown3 (kp_turned hturn3)
      obtain ⟨w4, hw4⟩ : ∃ w4, w4 = w3.drew := ⟨_, rfl⟩
      have hb3 : w3.heap[w2.heap.size]? = some (.cells #[.slice so f.b.length sc, .int .i64 (f.lasts : Int)] 93 (0, 0)) := by
        rw [(kp_turned (B := w2.heap.size + 1) hturn3).block _ (by omega) (by simp; have := h2.lt.2; omega)]
        exact World.alloc_heap_new _ _
      have d0 : w4.cell? ⟨p, 0, none⟩ = some (.map (some mb)) := by rw [hw4]; exact (hk3.cell (p := ⟨p, 0, none⟩) hpl (by simpa using hA.1.symm)).trans c0
      have k0 : w4.cell? ⟨w2.heap.size, 0, none⟩ = some (.slice so f.b.length sc) := by rw [hw4]; exact (Lib.cell_of_heap hb3 0).trans rfl
      have k1 : w4.cell? ⟨w2.heap.size, 1, none⟩ = some (.int .i64 (f.lasts : Int)) := by rw [hw4]; exact (Lib.cell_of_heap hb3 1).trans rfl
      rw [del_ents] at hown3
      have hown4 : w4.ownsMap Tryz.prog 9 heldR mb (delBy gname nm gs).length (entsD (delBy gname nm gs)) := by rw [hw4]; exact (ownsMap_ents hown3).drew
      have hgs4 : (d.step.1.dropped nm).files = (delBy gname nm gs).map (·.1) := by
        show delBy F.name nm d.step.1.files = _
        rw [HGS.out]; exact map_delBy (nm := gname) (nm' := F.name) (fun g : G => g.1) (fun _ => rfl) nm gs
      have hn4 := few_g hgs4 (h.ok.step.dropped nm)
      have HGS4 := Lib.hid hgs4
      have HW4 := Lib.hid hw4
      clear hb3 hown3 hgs4 hsz
      refine wp_region_still_tail 6 (by kernel_rfl) (by kernel_rfl) ?_
      simp only [List.take_succ_cons, List.take_zero, List.drop_succ_cons, List.drop_zero]
      change wpStill _ _ (World.drew _) (fun a' => wpList _ _ _ _ a' (World.drew _)) _ _
      rw [← hw4]
      clear hw4
      repeat still_step
      refine wpStill_nil ?_
      go_wp2_with (at_mapUpdate; go_must (refine wpList_put rfl _ _ _ rfl mb _ (delBy gname nm gs) rfl hown4 hn4 tn rfl hlt (.agg #[.slice so f.b.length sc, .int .i64 (f.lasts : Int)]) rfl ?_; intro w5 hown5 hk5))
      go_ret
      have hk4 : Kp [mb] w2.heap.size w2 w4 := by rw [HW4.out]; exact hk3.drew 1
      have h4 : IsDisk w4 A p mb (d.step.1.dropped nm) := by rw [HW4.out]; exact h3.kp_ge ((Kp.refl _ _ _).drew 1)
      have hv4 : BytesV w4 A (.slice so f.b.length sc) f.b := hv.kp hk4 (by simpa using hA.2.2)
      have hv5 : BytesV w5 A (.slice so f.b.length sc) f.b := hv4.kp hk5 (by simpa using hA.2.2)
      refine ⟨rfl, h4.putted HGS4.out (h4.files HGS4.out hown4) (⟨tn, f.b, f.lasts⟩, .agg #[.slice so f.b.length sc, .int .i64 (f.lasts : Int)]) rfl rfl hown5 hk5 ⟨_, rfl, hv5⟩ (by unfold Dk.moved Dk.dropped; rw [hfn]) hok, ?_⟩
      exact (((HK.out.mono (by simp) (Nat.le_refl _)).trans (HK2.out.mono (by simp) HK.out.size)).trans (hk4.mono (by simp) (Nat.le_trans HK.out.size HK2.out.size))).trans (hk5.mono (by simp) (Nat.le_trans HK.out.size (Nat.le_trans HK2.out.size hk4.size)))
end Go.Proofs.YtdabflkejhoghaaGreat.Hand
namespace Go.Proofs.YtdabflkejhoghaaGreat.Hand
open Go Go.RowKit Go.Maps Go.WideMaps
set_option linter.unusedVariables false
theorem infoByte : (Tryz.prog.info? 5).map (fun i => (i.zero, i.size, i.bytes)) = some (some (.int .u8 0), 1, 1) := by kernel_rfl
theorem bcells_one {b : List UInt8} : ∀ u ∈ bcells b, u.oneCell' = true := by
  intro u hu
  obtain ⟨x, _, rfl⟩ := List.mem_map.1 hu
  rfl
theorem bcells_app (a b : List UInt8) : bcells (a ++ b) = bcells a ++ bcells b := by simp [bcells]
theorem BytesV.news {w : World} {A : Nat → Prop} {a : Addr} {n c : Nat} {b : List UInt8} (h : BytesV w A (.slice (some a) n c) b) : ∀ j u, (bcells b)[j]? = some u → w.cell? (a.add j) = some u := by
  obtain ⟨ao, cap, e, _, _, h3⟩ := h
  cases e
  rcases h3 with ⟨h, _⟩ | ⟨a', ha, _, hc⟩
  · cases h
  · cases ha
    intro j u hu
    have hj : j < b.length := by
      have := (List.getElem?_eq_some_iff.1 hu).1
      simpa [bcells] using this
    rw [hc j hj]
    unfold bcells at hu
    rw [List.getElem?_map, List.getElem?_eq_getElem hj] at hu
    simpa using hu
/-- append(x, b...), the bytes b from wherever -/
theorem wpList_appB {w : World} {ops : Array Oper} {rest : List Oper} {o : Oper} {a : Act} {Q : Exit → Act → World → Prop} (hg : o.guard = none) (s x : Operand)
    (ho : o.op = .call { callee := .builtin .append, args := #[s, x], argTypes := #[39, 39] }) (base : Nat) (v : Value) (n : Nat) (xs : List Value) (hs : a.eval s = v) (hown : w.ownsRow base 5 1 v n xs)
    {A : Nat → Prop} {vb : Value} {b : List UInt8} (hx : a.eval x = vb) (hb : BytesV w A vb b) (hlen : n + b.length ≤ 140737488355328) (hbase : base ≤ w.heap.size)
    (hK : ∀ v' w', w'.ownsRow base 5 1 v' (n + b.length) (xs ++ bcells b) → w.grownBy w' v.ownBlock → wpList Tryz.prog ops Q rest (a.put o.dst v') w') : wpList Tryz.prog ops Q (o :: rest) a w := by
  obtain ⟨i0, hi, hz0, hz1, hz2⟩ := info_parts infoByte
  have hb' := hb
  obtain ⟨ao, cap, rfl, h1, h2, h3⟩ := hb'
  rcases h3 with ⟨rfl, rfl, rfl⟩ | ⟨ad, rfl, _, _⟩
  · exact wpList_append_own_none hg s x 39 ho base 5 i0 1 Tryz.underlying39 hi v n xs hs hown hx (hK v w (by simpa [bcells] using hown) (World.grownBy.refl w _))
  · exact wpList_append_own w hg s x 39 ho base 5 i0 (.int .u8 0) 1 1 Tryz.underlying39 hi hz0 hz1 hz2 rfl (by decide) v n xs hs hown ad b.length cap (bcells b) hx (by simp [bcells]) hb.news bcells_one (by unfold maxLen; omega) (by omega) hbase (fun v' w' h1 h2 _ => hK v' w' h1 h2)
set_option maxHeartbeats 800000 in
set_option maxRecDepth 100000 in
theorem dGrow (n : Nat) (w : World) (hn : n ≤ 140737488355328) : Calls Tryz.prog 83 #[.slice none 0 0, .int .i64 n] w fun e w' => ∃ v, e = .returned v ∧ w'.ownsRow w.heap.size 5 1 v 0 [] ∧ Below w.heap.size w w' := by
  obtain ⟨i0, hi, hz0, hz1, hz2⟩ := info_parts infoByte
  by_cases h0 : n = 0
  · subst h0
    refine (Any8.slices_Grow_room Tryz.grow83 none 0 0 0 w (by omega) (by omega) (by omega) (by omega)).mono ?_
    rintro e w' ⟨rfl, rfl⟩
    exact ⟨_, rfl, ⟨rfl, .inl ⟨rfl, rfl⟩⟩, Below.refl _ _⟩
  · refine (Any8.slices_Grow_grow Tryz.grow83 i0 (.int .u8 0) hi hz0 (by omega) none 0 0 n [] w (by omega) (by omega) (by rw [hz2]; omega) (by omega) (by simp) (fun _ => rfl) (by simp)).mono ?_
    rintro e w' ⟨rfl, rfl⟩
    have hge : 0 + n ≤ grownCap w (0 + n) 0 (Tryz.grow83_ren.t 25) := grownCap_ge w (0 + n) 0 _
    have hle : grownCap w (0 + n) 0 (Tryz.grow83_ren.t 25) ≤ maxLen := grownCap_le_maxLen w (0 + n) 0 _ (by unfold maxLen; omega)
    generalize grownCap w (0 + n) 0 (Tryz.grow83_ren.t 25) = cp at hge hle ⊢
    refine ⟨_, rfl, ⟨rfl, .inr ⟨w.heap.size, _, _, rfl, Nat.le_refl _, World.alloc_heap_new _ _, by omega, hle, ?_, by simp⟩⟩, ((Below.refl _ w).drew).alloc (Nat.le_refl _) _⟩
    simp [Builtin.zeroCells, Value.cells]
    omega
theorem own_ge {w : World} {B E n : Nat} {v : Value} {xs : List Value} (h : w.ownsRow B E 1 v n xs) : ∀ k, v.ownBlock = some k → B ≤ k := by
  rcases h.2 with ⟨rfl, _⟩ | ⟨g, cap, cur, rfl, hg, rest⟩
  · simp [Value.ownBlock]
  · simp [Value.ownBlock]; omega
theorem kp_grown {w w' : World} {r : Option Nat} {B : Nat} (h : w.grownBy w' r) (hr : ∀ k, r = some k → B ≤ k) (hB : B ≤ w.heap.size) : Kp [] B w w' :=
  ⟨h.os, h.tape, h.output, h.size, fun k hk _ => h.block k (by omega) (fun e => by have := hr k e.symm; omega)⟩
set_option maxHeartbeats 1600000 in
set_option maxRecDepth 100000 in
/-- what came of a joining -/
theorem dConcat {A1 A2 : Nat → Prop} (blk : Nat) (v1 v2 : Value) (b1 b2 : List UInt8) (w : World) (k1 : w.cell? ⟨blk, 0, none⟩ = some v1) (k2 : w.cell? ⟨blk, 1, none⟩ = some v2) (hblk : blk < w.heap.size) (h1 : BytesV w A1 v1 b1) (h2 : BytesV w A2 v2 b2)
    (hlen : b1.length + b2.length ≤ 140737488355328) : Calls Tryz.prog 66 #[.slice (some ⟨blk, 0, none⟩) 2 2] w (NewB w (b1 ++ b2)) := by
  obtain ⟨n1, hn1⟩ : ∃ n, n = b1.length := ⟨_, rfl⟩
  obtain ⟨n2, hn2⟩ : ∃ n, n = b2.length := ⟨_, rfl⟩
  obtain ⟨a1, c1, rfl, hc1, _⟩ := id h1
  obtain ⟨a2, c2, rfl, hc2, _⟩ := id h2
  unfold NewB
  have hG : ∀ w, Calls Tryz.prog 83 #[.slice none 0 0, .int .i64 ((b1.length : Int) + (b2.length : Int))] w fun e w' => ∃ v, e = .returned v ∧ w'.ownsRow w.heap.size 5 1 v 0 [] ∧ Below w.heap.size w w' := fun w => by
    have := dGrow (b1.length + b2.length) w hlen
    rwa [Int.natCast_add] at this
  clear hn1 hn2
  go_enter Tryz.func66, Tryz.ntmps66
  go_wp2
  refine wp_loop_rounds 3 ?_
  rw [rounds_succ]
  go_wp2
  rw [rounds_succ]
  go_wp2
  rw [rounds_succ]
  go_wp2_with (go_at_call 83; go_must ((with_reducible refine (hG _).mono ?_); rintro e w1 ⟨v, rfl, ho, hb⟩))
  have j1 : w1.cell? ⟨blk, 0, none⟩ = some (.slice a1 b1.length c1) := (hb.cell (p := ⟨blk, 0, none⟩) hblk).trans k1
  have j2 : w1.cell? ⟨blk, 1, none⟩ = some (.slice a2 b2.length c2) := (hb.cell (p := ⟨blk, 1, none⟩) hblk).trans k2
  have hs := hb.size
  have H1 : BytesV w1 (fun k => k < w.heap.size) (.slice a1 b1.length c1) b1 := h1.mono hs (fun k _ hk => ⟨hk, hb.block k hk⟩)
  have H2 : BytesV w1 (fun k => k < w.heap.size) (.slice a2 b2.length c2) b2 := h2.mono hs (fun k _ hk => ⟨hk, hb.block k hk⟩)
  refine wp_loop_rounds 3 ?_
  rw [rounds_succ]
  go_wp2_with (at_builtin; go_must (refine wpList_appB rfl _ _ rfl w.heap.size v 0 [] rfl ho rfl H1 (by omega) hs ?_; intro v2 w2 ho2 hg2))
  have hv : ∀ k, v.ownBlock = some k → w.heap.size ≤ k := own_ge ho
  have hk2 : Kp [] w.heap.size w1 w2 := kp_grown hg2 hv hs
  have l2 : w2.cell? ⟨blk, 1, none⟩ = some (.slice a2 b2.length c2) := (hk2.cell (p := ⟨blk, 1, none⟩) hblk (by simp)).trans j2
  have H22 : BytesV w2 (fun k => k < w.heap.size) (.slice a2 b2.length c2) b2 := H2.mono hk2.size (fun k hk _ => ⟨hk, hk2.block k hk (by simp)⟩)
  have hs2 := Nat.le_trans hs hk2.size
  rw [rounds_succ]
  go_wp2_with (at_builtin; go_must (refine wpList_appB rfl _ _ rfl w.heap.size v2 (0 + b1.length) ([] ++ bcells b1) rfl ho2 rfl H22 (by omega) hs2 ?_; intro v3 w3 ho3 hg3))
  rw [rounds_succ]
  go_wp2
  go_ret
  have hk3 : Kp [] w.heap.size w2 w3 := kp_grown hg3 (own_ge ho2) hs2
  exact ⟨v3, rfl, by rw [bcells_app]; simpa [Nat.zero_add] using ho3, (((Kp.of_below hb (Nat.le_refl _)).trans hk2).trans hk3).below⟩
end Go.Proofs.YtdabflkejhoghaaGreat.Hand
namespace Go.Proofs.YtdabflkejhoghaaGreat.Hand
open Go Go.RowKit Go.Maps Go.WideMaps
set_option linter.unusedVariables false
end Go.Proofs.YtdabflkejhoghaaGreat.Hand
