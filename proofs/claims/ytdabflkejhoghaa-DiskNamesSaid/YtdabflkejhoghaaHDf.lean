/- Used. -/
import Derived.Below
import Derived.Deep.Draws
import Derived.Deep.AppendLies
import Derived.Maps.AppendAt
import Derived.OwnWalk
import Derived.Laws.BytesArg
import Derived.Laws.MakeOwn
import Derived.Laws.OwnMore
import Derived.Deep.OwnRows
import Derived.Tactics
import Derived.Lib.ConvBytes
import Derived.Laws.Slices
import Derived.WalkKit
import Derived.KernelRfl
import Derived.RowKit3
import Derived.Deep.LoopGhost
import Derived.Deep.QuietTactic
import Derived.BigQuiet
import Derived.WideLaws
import Derived.Deep.DeepCutAuto
import Derived.Deep.CutBlock
import Derived.Deep.RegionHeld3
import Derived.Laws.Rows
import Derived.Lib.AppendStr
import Derived.ArgAppend
import Derived.Laws.IdiomCopy
import Derived.OrdersHeld
import Derived.Laws.BitsLemmas
import Derived.RowKit
import Derived.Outline
import Derived.Maps.Own
import Derived.Maps.OwnOps
import Derived.Maps.OwnSet
import Derived.Maps.Views
import Derived.Maps.RangeWalk
import Derived.Maps.Ext
import Derived.RangeFuncOwn
import Derived.OneCell
import Derived.Deep.DeepMust
import Derived.Lib.Hide
import Derived.Test.YtdabflkejhoghaaHDd
namespace Go.Proofs.Ytdabflkejhoghaa.Hand
open Go Go.RowKit Go.Maps Go.WideMaps
set_option linter.unusedVariables false
section
variable {w : World} {ops : Array Oper} {rest : List Oper} {o : Oper} {a : Act} {Q : Exit → Act → World → Prop}
/-- A range over a disk's files: one more. -/
theorem wpList_next_files (hg : o.guard = none) (it : Operand) (hop : o.op = Op.next it false) (b r n : Nat) (gs : List G) (hfs : ∀ g ∈ gs, ∃ so sc l, g.2 = .agg #[.slice so g.1.b.length sc, .int .i64 l])
    (left : Lit → Bool) (cnt : Nat) (hit : a.eval it = .pointer (some ⟨r, 0, none⟩)) (h : w.ranges Try.prog 9 heldR b r n (entsD gs) left cnt)
    (hDone : (∀ kl, left kl = false) → wpList Try.prog ops Q rest (a.put o.dst (.tuple #[.bool false])) w)
    (hMore : ∀ (g : G) (so : Option Addr) (sc : Nat) (l : Int) (w' : World) (cnt' : Nat), lookBy gname g.1.name gs = some g → left (.string g.1.name) = true → w'.ranges Try.prog 9 heldR b r n (entsD gs) (fun z => left z && !z.sameKey (.string g.1.name)) cnt' → cnt' < cnt →
      w.grownBy w' (some r) → w'.heap.size = w.heap.size → (Instr.entry (.pointer (some ⟨r, 0, none⟩))).run Try.prog w' = .ok (.tuple #[.string ⟨g.1.name.toArray⟩, .agg #[.slice so g.1.b.length sc, .int .i64 l]]) w' →
      wpList Try.prog ops Q rest (a.put o.dst (.tuple #[.bool true, .string ⟨g.1.name.toArray⟩, .agg #[.slice so g.1.b.length sc, .int .i64 l]])) w') :
    wpList Try.prog ops Q (o :: rest) a w := by
  refine wpList_next_ranges w hg it hop 9 law heldR (fun s : ByteArray => .string s) (fun v : Value => v) (fun key kl hkey => ?_) (fun v y hv => ⟨v, rfl⟩) b r n (entsD gs) left cnt hit h (fun _ hl => hDone hl)
    (fun s c kl y w' cnt' hkey hlk hv hat hrg hlt hgr hsz hen => ?_)
  · obtain ⟨s, e, _⟩ := string_of_keyOf Try.underlying9 hkey
    exact ⟨s, e⟩
  · obtain ⟨s', e, rfl, _⟩ := string_of_keyOf Try.underlying9 hkey
    cases e
    have hy : y = (.held c, []) := by simpa [heldR] using hv.symm
    subst hy
    have h1 := hat .nil
    rw [atKey_ents] at h1
    cases hl : lookBy gname s.data.toList gs with
    | none => rw [hl] at h1; cases h1
    | some g =>
      rw [hl] at h1
      have hc : g.2 = c := by simpa using h1
      obtain ⟨hm, hn⟩ := lookBy_mem hl
      obtain ⟨so, sc, l, e⟩ := hfs g hm
      have hn' : g.1.name = s.data.toList := hn
      have hs : s = ⟨g.1.name.toArray⟩ := by rw [hn']
      rw [← hn'] at hl hlk hrg
      rw [← hc, e, hs] at hen ⊢
      exact hMore g so sc l w' cnt' hl hlk hrg hlt hgr hsz hen
end
/-- those that have come -/
def come (left : Lit → Bool) (gs : List G) : List F := (gs.filter fun g => !left (.string g.1.name)).map (·.1)
theorem come_start (gs : List G) : come (Maps.has (entsD gs)) gs = [] := by
  unfold come
  rw [List.map_eq_nil_iff, List.filter_eq_nil_iff]
  intro g hg
  rw [has_ents]
  have : (lookBy gname g.1.name gs).isSome = true := by unfold lookBy; rw [List.find?_isSome]; exact ⟨g, hg, by simp [gname]⟩
  simp [this]
theorem come_end {left : Lit → Bool} (h : ∀ kl, left kl = false) (gs : List G) : come left gs = gs.map (·.1) := by
  unfold come
  rw [List.filter_eq_self.2 (fun g _ => by simp [h])]
theorem come_used {left : Lit → Bool} {gs : List G} {g : G} (hr : Rising gname gs) (hl : lookBy gname g.1.name gs = some g) (hlk : left (.string g.1.name) = true) :
    used (come (fun z => left z && !z.sameKey (.string g.1.name)) gs) = used (come left gs) + g.1.b.length := by
  obtain ⟨p, q, rfl, hn, hp, hq⟩ := split_of_look hr hl
  unfold come
  have e : ∀ l : List G, (∀ y ∈ l, gname y ≠ g.1.name) → l.filter (fun x => !(left (.string x.1.name) && !(Lit.string x.1.name).sameKey (.string g.1.name))) = l.filter fun x => !left (.string x.1.name) := by
    intro l h
    apply List.filter_congr
    intro x hx
    have : (Lit.string x.1.name).sameKey (.string g.1.name) = false := by
      show (x.1.name == g.1.name) = false
      have hh : x.1.name ≠ g.1.name := h x hx
      simpa using hh
    simp [this]
  have s : (Lit.string g.1.name).sameKey (.string g.1.name) = true := by show (g.1.name == g.1.name) = true; simp
  rw [List.filter_append, List.filter_append, e p hp, List.filter_cons, List.filter_cons, e q hq]
  rw [if_pos (by simp [s]), if_neg (by simp [hlk])]
  simp only [List.map_append, List.map_cons, used_append, used_cons]
  omega
theorem come_le {left : Lit → Bool} : ∀ gs : List G, used (come left gs) ≤ used (gs.map (·.1))
  | [] => Nat.le_refl _
  | g :: gs => by
    have := come_le (left := left) gs
    unfold come at this ⊢
    rw [List.filter_cons, List.map_cons, used_cons]
    split
    · rw [List.map_cons, used_cons]; omega
    · omega
theorem rising_g {d : Dk} {gs : List G} (h : d.files = gs.map (·.1)) (ho : d.Ok) : Rising gname gs := by
  have := ho.rising
  rw [h] at this
  unfold Rising at this ⊢
  rw [List.pairwise_map] at this
  exact this
set_option maxHeartbeats 1600000 in
set_option maxRecDepth 100000 in
theorem dUsed (A : Nat → Prop) (p mb : Nat) (d : Dk) (w : World) (h : IsDisk w A p mb d) :
    Calls Try.prog 31 #[.pointer (some ⟨p, 0, none⟩)] w fun e w' => e = .returned (.int .i64 (used d.files : Nat)) ∧ Kp [] w.heap.size w w' := by
  obtain ⟨left, gs, ⟨c0, _⟩, _, _, hgs, hown, hf⟩ := h.cells
  have hris := rising_g hgs h.ok
  have hu : used (gs.map (·.1)) ≤ 1048576 := by rw [← hgs]; have := h.ok.used; have := h.ok.room; omega
  have hfs : ∀ g ∈ gs, ∃ so sc l, g.2 = .agg #[.slice so g.1.b.length sc, .int .i64 l] := fun g hg => by
    obtain ⟨s, e, ao, cap, rfl, _⟩ := hf g hg
    exact ⟨ao, cap, _, e⟩
  rw [hgs]
  have HF := Lib.hid hfs
  have HR := Lib.hid hris
  clear hgs hf h hfs hris
  go_enter Try.func31, Try.ntmps31
  go_wp2_with (at_range; refine wpList_range_own _ rfl _ 88 rfl 9 103 law Try.underlying88 heldR mb _ _ rfl hown ?_; intro w0 hrg0 hg0 hs0)
  go_frame
  go_loopw [3] (fun v wr => ∃ (left : Lit → Bool) (cnt : Nat), wr.ranges Try.prog 9 heldR mb w.heap.size gs.length (entsD gs) left cnt ∧ v = .int .i64 (used (come left gs) : Nat) ∧ Kp [] w.heap.size w wr) (fun _ wr => wr.rangeLeft mb w.heap.size)
  case atStart => exact ⟨_, _, hrg0, by rw [come_start]; rfl, hg0.os, hg0.tape, hg0.output, hg0.size, fun k hk _ => hg0.block k hk (by simp)⟩
  case round =>
    obtain ⟨left, cnt, hrg, rfl, hkp⟩ := hrel
    have hle := come_le (left := left) gs
    have HKP := Lib.hid hkp
    clear hkp
    go_wp2_with (at_next; refine wpList_next_files rfl _ rfl mb w.heap.size _ gs HF.out left cnt rfl hrg ?_ ?_)
    · intro hl
      rw [come_end hl]
      go_wp2
      go_ret
      exact ⟨rfl, HKP.out⟩
    · intro gf gv so sc l w1 cnt1 hlook hlk hrg1 hlt hg1 hs1 hen
      have hcu := come_used (g := (gf, gv)) HR.out hlook hlk
      have hle1 := come_le (left := (fun z => left z && !z.sameKey (.string gf.name))) gs
      have hcu : used (come (fun z => left z && !z.sameKey (.string gf.name)) gs) = used (come left gs) + gf.b.length := hcu
      have HCU := Lib.hid hcu
      have HS1 := Lib.hid hs1
      have HLOOK := Lib.hid hlook
      have HLK := Lib.hid hlk
      have hsum : (used (come left gs) : Int) + (gf.b.length : Int) ≤ 1048576 := by omega
      clear hcu hs1 hlook hlk
      go_wp2
      go_roundw
      case rel => exact ⟨_, cnt1, hrg1.alloc _, by rw [HCU.out]; rfl, (HKP.out.trans ⟨hg1.os, hg1.tape, hg1.output, hg1.size, fun k hk _ => hg1.block k (by have := HKP.out.size; omega) (by simp; omega)⟩).alloc (by have := HKP.out.size; have := HS1.out; omega) _⟩
      case measure => rw [(hrg1.alloc _).left_eq, hrg.left_eq]; omega
end Go.Proofs.Ytdabflkejhoghaa.Hand
