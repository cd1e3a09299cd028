/- fill: rows of pairs, told in two ways. -/
import Derived.Test.YtjbghpkdehikfaaDoorProg
import Derived.Below
import Derived.Deep.Draws
import Derived.Deep.AppendLies
import Derived.Maps.AppendAt
import Derived.OwnWalk
import Derived.Laws.BytesArg
import Derived.Laws.MakeOwn
import Derived.Laws.OwnMore
import Derived.Deep.OwnRows
import Derived.Tactics
import Derived.Lib.ConvBytes
import Derived.Laws.Slices
import Derived.WalkKit
import Derived.KernelRfl
import Derived.RowKit3
import Derived.Deep.LoopGhost
import Derived.Deep.QuietTactic
import Derived.BigQuiet
import Derived.WideLaws
import Derived.Deep.DeepCutAuto
import Derived.Deep.CutBlock
import Derived.Deep.RegionHeld3
import Derived.Laws.Rows
import Derived.Lib.AppendStr
import Derived.ArgAppend
import Derived.Laws.IdiomCopy
import Derived.OrdersHeld
import Derived.Laws.BitsLemmas
import Derived.RowKit
import Derived.Test.YtjbghpkdehikfaaDoorWWords
import Derived.Test.YtjbghpkdehikfaaDoorWLast
import Derived.Test.YtjbghpkdehikfaaDoorWTab
import Derived.Test.YtjbghpkdehikfaaDoorWFour
import Derived.Test.YtjbghpkdehikfaaDoorWQPut
import Derived.Test.YtjbghpkdehikfaaDoorWApart
import Derived.Test.YtjbghpkdehikfaaDoorWArr
import Derived.Test.YtjbghpkdehikfaaDoorWZeros
import Derived.Test.YtjbghpkdehikfaaDoorWFoot
import Derived.Test.YtjbghpkdehikfaaDoorWKept
import Derived.Test.YtjbghpkdehikfaaDoorWShare
import Derived.Test.YtjbghpkdehikfaaDoorWN
import Derived.Test.YtjbghpkdehikfaaDoorWFootNe
import Derived.Test.YtjbghpkdehikfaaDoorWAt
import Derived.Test.YtjbghpkdehikfaaDoorWEqStruct
import Derived.Test.YtjbghpkdehikfaaDoorWRepsOne
import Derived.Test.YtjbghpkdehikfaaDoorWInv
import Derived.Test.YtjbghpkdehikfaaDoorWInvWords
import Derived.Test.YtjbghpkdehikfaaDoorWGuard
import Derived.Test.YtjbghpkdehikfaaDoorWNEv
import Derived.Test.YtjbghpkdehikfaaDoorWMore
import Derived.Outline
import Derived.Test.YtjbghpkdehikfaaDoorHPure
namespace Go.Proofs.YtjbghpkdehikfaaDoor.Hand
open Go.RowKit Go.Shelf Go.Proofs.YtjbghpkdehikfaaDoorW.PrintWords Go.Proofs.YtjbghpkdehikfaaDoorW.PrintLast Go.Proofs.YtjbghpkdehikfaaDoorW.PrintMore
set_option linter.unusedVariables false
set_option linter.unusedSimpArgs false
variable {α : Type} {g : α → ByteArray × ByteArray}
def pcG (g : α → ByteArray × ByteArray) (l : List α) : List Value := l.flatMap fun x => [.string (g x).1, .string (g x).2]
theorem pcG_len (l : List α) : (pcG g l).length = l.length * 2 := by
  induction l with
  | nil => rfl
  | cons x l ih => simp [pcG] at ih ⊢; omega
theorem pcG_app (l m : List α) : pcG g (l ++ m) = pcG g l ++ pcG g m := by simp [pcG]
theorem pcG_at (l : List α) : ∀ j x, l[j]? = some x → ((pcG g l).drop (j * 2)).take 2 = [.string (g x).1, .string (g x).2] := by
  induction l with
  | nil => intro j x h; simp at h
  | cons y l ih =>
    intro j x h
    cases j with
    | zero => simp at h; subst h; simp [pcG]
    | succ j =>
      have := ih j x (by simpa using h)
      rw [← this]
      show ((([.string (g y).1, .string (g y).2] : List Value) ++ pcG g l).drop ((j + 1) * 2)).take 2 = _
      rw [show (j + 1) * 2 = 2 + j * 2 by omega, ← List.drop_drop]
      rfl
theorem reps_eq {w : World} {B : Nat} {ok : Nat → Prop} (l : List α) : ∀ cs, Reps (Kd.M (PK g) w B ok) 2 l cs → cs = pcG g l := by
  induction l with
  | nil => intro cs h; exact List.length_eq_zero_iff.1 (by have := h.1; simpa using this)
  | cons x l ih =>
    intro cs h
    have h0 := h.2 0 x rfl
    obtain ⟨c0, c1, e, h1, h2⟩ := h0
    have h1' : c0 = [.string (g x).1] := h1
    have h2' : c1 = [.string (g x).2] := h2
    subst h1' h2'
    have hl := h.1
    match cs, hl with
    | a :: b :: r, hl =>
      simp at e
      obtain ⟨rfl, rfl⟩ := e
      have := ih r ⟨by simp at hl ⊢; omega, fun j p hj => by
        have := h.2 (j + 1) p (by simpa using hj)
        rw [show (j + 1) * 2 = 2 + j * 2 by omega, ← List.drop_drop] at this
        exact this⟩
      rw [this]
      rfl
    | [a], hl => simp at hl; omega
    | [], hl => simp at hl
theorem own_of {w : World} {B : Nat} {ok : Nat → Prop} {v : Value} {l : List α} (h : Kd.R (PK g) 32 w B ok v l) : w.ownsRow B 32 2 v l.length (pcG g l) := by
  obtain ⟨_, inner, ho, hr⟩ := h
  rw [← reps_eq l inner hr]
  exact ho
theorem own_C {w : World} {B : Nat} {A : Option Addr} {c : Nat} {l : List α} (h : w.ownsRow B 32 2 (.slice A l.length c) l.length (pcG g l)) : Kd.C (PK g) w A l.length l ∧ l.length ≤ c := by
  rcases h.2 with ⟨hv, h0⟩ | ⟨gb, cap, cur, hv, hb, hg, hcap, hmax, hsz, htk⟩
  · refine ⟨⟨rfl, by omega, fun hp => by omega⟩, by omega⟩
  · cases hv
    refine ⟨⟨rfl, by unfold maxLen at hmax; omega, fun _ => ⟨_, rfl, fun j x hj => ⟨[.string (g x).1, .string (g x).2], rfl, ⟨_, _, rfl, rfl, rfl⟩, fun i u hu => ?_⟩⟩⟩, hcap⟩
    have hat := pcG_at (g := g) l j x hj
    have hi : i < 2 := by
      have := (List.getElem?_eq_some_iff.1 hu).1
      simpa using this
    have e : (pcG g l)[j * 2 + i]? = some u := by
      rw [← hat, List.getElem?_take, if_pos hi, List.getElem?_drop] at hu
      exact hu
    rw [← htk, List.getElem?_take] at e
    split at e
    · show w.cell? ((⟨gb, 0, none⟩ : Addr).add (j * 2 + i)) = _
      rw [show (⟨gb, 0, none⟩ : Addr).add (j * 2 + i) = ⟨gb, j * 2 + i, none⟩ by unfold Addr.add; split <;> simp_all, Lib.cell_of_heap hg]
      simpa using e
    · cases e
theorem own_sl {w : World} {B n : Nat} {v : Value} {xs : List Value} (h : w.ownsRow B 32 2 v n xs) (hn : 0 < n) : ∃ b c, v = .slice (some ⟨b, 0, none⟩) n c ∧ B ≤ b ∧ b < w.heap.size ∧ n ≤ c ∧ ∀ j u, xs[j]? = some u → w.cell? ((⟨b, 0, none⟩ : Addr).add j) = some u := by
  rcases h.2 with ⟨hv, h0⟩ | ⟨gb, cap, cur, hv, hb, hg, hcap, _⟩
  · omega
  · subst hv
    exact ⟨gb, cap, rfl, hb, (Array.getElem?_eq_some_iff.1 hg).1, hcap, h.cells (by simp [Value.ownBlock])⟩
theorem pcG_one (l : List α) : ∀ u ∈ pcG g l, u.oneCell' = true := by
  intro u hu
  obtain ⟨x, _, hx⟩ := List.mem_flatMap.1 hu
  simp at hx
  rcases hx with rfl | rfl <;> rfl
/-- Print, and its bytes read as a text wherever the world goes on. -/
theorem print_str (A : Option Addr) (c : Nat) (l : List α) (w : World) (hC : Kd.C (PK g) w A l.length l) (hl : l.length ≤ 1000000)
    (hs : ∀ x ∈ l, 3 * (bl (g x).1).length < 1000000 ∧ 3 * (bl (g x).2).length < 1000000) (L : List UInt8) (hL : printR (l.map (prOf ∘ g)) = L) :
    Calls Tryd.prog 20 #[.slice A l.length c] w fun e w' => ∃ b c', e = .returned (.slice (some ⟨b, 0, none⟩) L.length c') ∧ Bys w'.heap.size w' (some ⟨b, 0, none⟩) L ∧ Below w.heap.size w w' := by
  refine (print g A c l w hC hl hs).mono ?_
  rw [hL]
  rintro e w' ⟨b, c', rfl, h1, h2, h3, h4⟩
  exact ⟨b, c', rfl, .inr ⟨_, rfl, h2, fun j hj => by
    rw [show (⟨b, 0, none⟩ : Addr).add j = ⟨b, j, none⟩ by unfold Addr.add; split <;> simp_all]
    exact h3 j hj⟩, h4⟩
end Go.Proofs.YtjbghpkdehikfaaDoor.Hand
