/- A disk in memory: its block, its map, its files' bytes. -/
import Derived.Test.YtdabflkejhoghaaProg
import Derived.Laws.AppendOwn
import Derived.Lib.Builder
import Derived.WalkKit
import Derived.Deep.QuietTactic
import Derived.Test.YtdabflkejhoghaaHMap
namespace Go.Proofs.Ytdabflkejhoghaa.Hand
open Go Go.RowKit
set_option linter.unusedVariables false
theorem add_block (a : Addr) (j : Nat) : (a.add j).block = a.block := by unfold Addr.add; split <;> rfl
theorem add_add (a : Addr) (i j : Nat) (h : a.spot = none) : (a.add i).add j = a.add (i + j) := by
  unfold Addr.add
  by_cases hi : i = 0
  · subst hi; simp
  · by_cases hj : j = 0
    · subst hj; simp [hi]
    · simp [hi, hj, Nat.add_assoc]
/-- Below B nothing has turned but the blocks of L. -/
structure Kp (L : List Nat) (B : Nat) (w w' : World) : Prop where
  os : w'.os = w.os
  tape : w'.tape = w.tape
  output : w'.output = w.output
  size : w.heap.size ≤ w'.heap.size
  block : ∀ k, k < B → k ∉ L → w'.heap[k]? = w.heap[k]?
theorem Kp.refl (L : List Nat) (B : Nat) (w : World) : Kp L B w w := ⟨rfl, rfl, rfl, Nat.le_refl _, fun _ _ _ => rfl⟩
theorem Kp.trans {L : List Nat} {B : Nat} {x y z : World} (h : Kp L B x y) (k : Kp L B y z) : Kp L B x z :=
  ⟨k.os.trans h.os, k.tape.trans h.tape, k.output.trans h.output, Nat.le_trans h.size k.size, fun i hb hn => (k.block i hb hn).trans (h.block i hb hn)⟩
theorem Kp.mono {L L' : List Nat} {B B' : Nat} {x y : World} (h : Kp L B x y) (hL : ∀ k ∈ L, k ∈ L') (hB : B' ≤ B) : Kp L' B' x y :=
  ⟨h.os, h.tape, h.output, h.size, fun k hk hn => h.block k (by omega) (fun e => hn (hL k e))⟩
theorem Kp.below {B : Nat} {x y : World} (h : Kp [] B x y) : Below B x y := ⟨h.os, h.tape, h.output, h.size, fun k hk => h.block k hk (by simp)⟩
theorem Kp.of_below {B B' : Nat} {L : List Nat} {x y : World} (h : Below B x y) (hB : B' ≤ B) : Kp L B' x y := ⟨h.os, h.tape, h.output, h.size, fun k hk _ => h.block k (by omega)⟩
theorem Kp.alloc {L : List Nat} {B : Nat} {x y : World} (h : Kp L B x y) (hB : B ≤ y.heap.size) (o : Obj) : Kp L B x (y.alloc o) :=
  h.trans (Kp.of_below ((Below.refl _ y).alloc (Nat.le_refl _) o) hB)
theorem Kp.drew {L : List Nat} {B : Nat} {x y : World} (h : Kp L B x y) (n : Nat) : Kp L B x (y.drewN n) := ⟨h.os, h.tape, h.output, h.size, fun k hk hn => h.block k hk hn⟩
theorem Kp.setCell {L : List Nat} {B : Nat} {x y : World} (h : Kp L B x y) {b : Nat} (hb : B ≤ b ∨ b ∈ L) (j : Nat) (s : Option Nat) (u : Value) : Kp L B x (y.setCell ⟨b, j, s⟩ u) :=
  ⟨h.os, h.tape, h.output, by simpa [World.setCell] using h.size, fun k hk hn => (Below.heap_setCell _ _ _ _ (fun e => by
    have e' : k = b := e
    subst e'
    rcases hb with hb | hb
    · omega
    · exact hn hb)).trans (h.block k hk hn)⟩
theorem Kp.cell {L : List Nat} {B : Nat} {x y : World} (h : Kp L B x y) {p : Addr} (hB : p.block < B) (hn : p.block ∉ L) : y.cell? p = x.cell? p := World.cell?_of_block (w := x) (h.block p.block hB hn)

/-- A slice of bytes that reads as b, in blocks that A lets. -/
def BytesV (w : World) (A : Nat → Prop) (v : Value) (b : List UInt8) : Prop :=
  ∃ (ao : Option Addr) (cap : Nat), v = .slice ao b.length cap ∧ b.length ≤ cap ∧ cap ≤ 9223372036854775807 ∧ ((ao = none ∧ b = [] ∧ cap = 0) ∨ ∃ a, ao = some a ∧ (b ≠ [] → A a.block ∧ a.block < w.heap.size) ∧ ∀ j (hj : j < b.length), w.cell? (a.add j) = some (.int .u8 ((b[j]'hj).toNat : Int)))
theorem BytesV.mono {w w' : World} {A A' : Nat → Prop} {v : Value} {b : List UInt8} (h : BytesV w A v b) (hs : w.heap.size ≤ w'.heap.size) (hA : ∀ k, A k → k < w.heap.size → A' k ∧ w'.heap[k]? = w.heap[k]?) : BytesV w' A' v b := by
  obtain ⟨ao, cap, rfl, h1, h2, h3⟩ := h
  refine ⟨ao, cap, rfl, h1, h2, ?_⟩
  rcases h3 with h3 | ⟨a, rfl, ha, hc⟩
  · exact .inl h3
  · refine .inr ⟨a, rfl, fun hb => ?_, fun j hj => ?_⟩
    · obtain ⟨h4, h5⟩ := ha hb
      exact ⟨(hA _ h4 h5).1, by omega⟩
    · obtain ⟨h4, h5⟩ := ha (fun e => by subst e; simp at hj)
      exact (World.cell?_of_block (w := w) (by rw [add_block]; exact (hA _ h4 h5).2)).trans (hc j hj)
theorem BytesV.nil (w : World) (A : Nat → Prop) : BytesV w A (.slice none 0 0) [] := ⟨none, 0, rfl, Nat.le_refl _, by omega, .inl ⟨rfl, rfl, rfl⟩⟩
/-- what a slice of its own reads as -/
theorem BytesV.own {w : World} {A : Nat → Prop} {base E : Nat} {v : Value} {b : List UInt8} {n : Nat} (h : w.ownsRow base E 1 v n (b.map fun x => .int .u8 (x.toNat : Int))) (hA : ∀ k, base ≤ k → A k) : BytesV w A v b := by
  obtain ⟨hl, hv⟩ := h
  have hn : n = b.length := by simpa using hl.symm
  subst hn
  rcases hv with ⟨rfl, hx⟩ | ⟨g, cap, cur, rfl, hg, hb, h1, h2, h3, h4⟩
  · have : b = [] := List.length_eq_zero_iff.1 hx
    subst this
    exact BytesV.nil w A
  · refine ⟨_, cap, rfl, h1, by unfold maxLen at h2; exact h2, .inr ⟨_, rfl, fun _ => ⟨hA g hg, (Array.getElem?_eq_some_iff.1 hb).1⟩, fun j hj => ?_⟩⟩
    have e : (⟨g, 0, none⟩ : Addr).add j = ⟨g, j, none⟩ := by unfold Addr.add; split <;> simp_all
    rw [e, Lib.cell_of_heap hb, ← Array.getElem?_toList]
    have h5 : (cur.toList.take (b.length * 1))[j]? = (b.map fun x => Value.int .u8 (x.toNat : Int))[j]? := by rw [h4]
    rw [List.getElem?_take_of_lt (by omega)] at h5
    rw [h5, List.getElem?_map, List.getElem?_eq_getElem hj]
    rfl
/-- its front -/
theorem BytesV.take {w : World} {A : Nat → Prop} {ao : Option Addr} {m cap : Nat} {b : List UInt8} (h : BytesV w A (.slice ao m cap) b) (k : Nat) (hk : k ≤ b.length) : BytesV w A (.slice ao k cap) (b.take k) := by
  obtain ⟨ao', cap', e, h1, h2, h3⟩ := h
  obtain ⟨rfl, rfl, rfl⟩ : ao = ao' ∧ m = b.length ∧ cap = cap' := by simpa using e
  have hkl : (b.take k).length = k := by simp; omega
  refine ⟨ao, cap, by rw [hkl], by omega, h2, ?_⟩
  rcases h3 with ⟨rfl, rfl, rfl⟩ | ⟨a, rfl, ha, hc⟩
  · exact .inl ⟨rfl, by simp, rfl⟩
  · exact .inr ⟨a, rfl, fun hb => ha (fun e => hb (by rw [e]; simp)), fun j hj => by rw [List.getElem_take]; exact hc j (by omega)⟩

/-- A file as it lies in the map. -/
def FileV (w : World) (A : Nat → Prop) (g : G) : Prop := ∃ s, g.2 = .agg #[s, .int .i64 (g.1.lasts : Int)] ∧ BytesV w A s g.1.b
theorem FileV.mono {w w' : World} {A A' : Nat → Prop} {g : G} (h : FileV w A g) (hs : w.heap.size ≤ w'.heap.size) (hA : ∀ k, A k → k < w.heap.size → A' k ∧ w'.heap[k]? = w.heap[k]?) : FileV w' A' g := by
  obtain ⟨s, e, hb⟩ := h
  exact ⟨s, e, hb.mono hs hA⟩

/-- Block p is a disk that reads as d; mb is its map; its files' bytes lie in blocks that A lets. -/
def IsDisk (w : World) (A : Nat → Prop) (p mb : Nat) (d : Dk) : Prop :=
  ∃ (left : Int) (gs : List G), w.heap[p]? = some (.cells #[.map (some mb), .int .i64 (d.room : Int), .bool d.fuse.isSome, .int .i64 left, .bool d.dead] 90 (0, 0)) ∧
    (-9223372036854775808 ≤ left ∧ left ≤ 9223372036854775807 ∧ ∀ k : Nat, d.fuse = some k → left = k) ∧ d.files = gs.map (·.1) ∧ w.ownsMap Try.prog 9 heldR mb gs.length (entsD gs) ∧ (∀ g ∈ gs, FileV w A g) ∧ (mb ≠ p ∧ ¬ A p ∧ ¬ A mb) ∧ d.Ok
theorem IsDisk.lt {w : World} {A : Nat → Prop} {p mb : Nat} {d : Dk} (h : IsDisk w A p mb d) : p < w.heap.size ∧ mb < w.heap.size := by
  obtain ⟨left, gs, hp, _, _, hm, _⟩ := h
  exact ⟨(Array.getElem?_eq_some_iff.1 hp).1, hm.lt⟩
theorem IsDisk.ok {w : World} {A : Nat → Prop} {p mb : Nat} {d : Dk} (h : IsDisk w A p mb d) : d.Ok := by
  obtain ⟨left, gs, _, _, _, _, _, _, ho⟩ := h
  exact ho
theorem ownsMap_kept {w w' : World} {P : Program} {k : TypeId} {R : Value → Option (DataW Value × List MemPlace)} {b n : Nat} {D : DataW Value} (h : w.ownsMap P k R b n D) (hb : w'.heap[b]? = w.heap[b]?) : w'.ownsMap P k R b n D := by
  obtain ⟨es, clock, h1, h2⟩ := h
  exact ⟨es, clock, hb.trans h1, h2⟩
/-- A disk stays what it is while other blocks turn. -/
theorem IsDisk.mono {w w' : World} {A A' : Nat → Prop} {p mb : Nat} {d : Dk} (h : IsDisk w A p mb d) (hs : w.heap.size ≤ w'.heap.size) (hp : w'.heap[p]? = w.heap[p]?) (hm : w'.heap[mb]? = w.heap[mb]?)
    (hA : ∀ k, A k → k < w.heap.size → A' k ∧ w'.heap[k]? = w.heap[k]?) (hn : ¬ A' p ∧ ¬ A' mb) : IsDisk w' A' p mb d := by
  obtain ⟨left, gs, h1, h2, h3, h4, h5, h6, h7⟩ := h
  exact ⟨left, gs, hp.trans h1, h2, h3, ownsMap_kept h4 hm, fun g hg => (h5 g hg).mono hs hA, ⟨h6.1, hn.1, hn.2⟩, h7⟩
theorem IsDisk.kp {w w' : World} {A : Nat → Prop} {p mb : Nat} {d : Dk} (h : IsDisk w A p mb d) {L : List Nat} {B : Nat} (hk : Kp L B w w') (hB : w.heap.size ≤ B) (hL : ∀ k ∈ L, ¬ A k ∧ k ≠ p ∧ k ≠ mb) : IsDisk w' A p mb d := by
  have hlt := h.lt
  obtain ⟨left, gs, h1, h2, h3, h4, h5, h6, h7⟩ := id h
  refine h.mono hk.size (hk.block _ (by omega) (fun e => (hL _ e).2.1 rfl)) (hk.block _ (by omega) (fun e => (hL _ e).2.2 rfl)) (fun k ha hl => ⟨ha, hk.block _ (by omega) (fun e => (hL _ e).1 ha)⟩) h6.2
end Go.Proofs.Ytdabflkejhoghaa.Hand
