/- fill: the contracts in the printer's words. -/
import Derived.Test.YtjbghpkdehikfaaDoorProg
import Derived.Below
import Derived.Deep.Draws
import Derived.Deep.AppendLies
import Derived.Maps.AppendAt
import Derived.OwnWalk
import Derived.Laws.BytesArg
import Derived.Laws.MakeOwn
import Derived.Laws.OwnMore
import Derived.Deep.OwnRows
import Derived.Tactics
import Derived.Lib.ConvBytes
import Derived.Laws.Slices
import Derived.WalkKit
import Derived.KernelRfl
import Derived.RowKit3
import Derived.Deep.LoopGhost
import Derived.Deep.QuietTactic
import Derived.BigQuiet
import Derived.WideLaws
import Derived.Deep.DeepCutAuto
import Derived.Deep.CutBlock
import Derived.Deep.RegionHeld3
import Derived.Laws.Rows
import Derived.Lib.AppendStr
import Derived.ArgAppend
import Derived.Laws.IdiomCopy
import Derived.OrdersHeld
import Derived.Laws.BitsLemmas
import Derived.RowKit
import Derived.Test.YtjbghpkdehikfaaDoorWWords
import Derived.Test.YtjbghpkdehikfaaDoorWLast
import Derived.Test.YtjbghpkdehikfaaDoorWTab
import Derived.Test.YtjbghpkdehikfaaDoorWFour
import Derived.Test.YtjbghpkdehikfaaDoorWQPut
import Derived.Test.YtjbghpkdehikfaaDoorWApart
import Derived.Test.YtjbghpkdehikfaaDoorWArr
import Derived.Test.YtjbghpkdehikfaaDoorWZeros
import Derived.Test.YtjbghpkdehikfaaDoorWFoot
import Derived.Test.YtjbghpkdehikfaaDoorWKept
import Derived.Test.YtjbghpkdehikfaaDoorWShare
import Derived.Test.YtjbghpkdehikfaaDoorWN
import Derived.Test.YtjbghpkdehikfaaDoorWFootNe
import Derived.Test.YtjbghpkdehikfaaDoorWAt
import Derived.Test.YtjbghpkdehikfaaDoorWEqStruct
import Derived.Test.YtjbghpkdehikfaaDoorWRepsOne
import Derived.Test.YtjbghpkdehikfaaDoorWInv
import Derived.Test.YtjbghpkdehikfaaDoorWInvWords
import Derived.Test.YtjbghpkdehikfaaDoorWGuard
import Derived.Test.YtjbghpkdehikfaaDoorWNEv
import Derived.Test.YtjbghpkdehikfaaDoorWMore
import Derived.Outline
import Derived.Test.YtjbghpkdehikfaaDoorHParse
namespace Go.Proofs.YtjbghpkdehikfaaDoor.Hand
open Go.RowKit Go.Shelf Go.Proofs.YtjbghpkdehikfaaDoorW.PrintWords Go.Proofs.YtjbghpkdehikfaaDoorW.PrintLast Go.Proofs.YtjbghpkdehikfaaDoorW.PrintMore
set_option linter.unusedVariables false
set_option linter.unusedSimpArgs false
/-- the bytes of a text -/
abbrev bl (s : ByteArray) : List UInt8 := s.data.toList
theorem bl_mk (s : ByteArray) : (⟨(bl s).toArray⟩ : ByteArray) = s := by cases s; simp
def fill_Unescape.f (a0 : ByteArray) : Option (ByteArray × Bool) := if (bl a0).length < 140737488355328 then some (⟨(unescR (bl a0)).1.toArray⟩, (unescR (bl a0)).2) else none
theorem fill_Unescape.calls (a0 r1 : ByteArray) (r2 : Bool) (w : World) (h : fill_Unescape.f a0 = some (r1, r2)) :
    Calls Tryd.prog 18 #[.string a0] w fun e w' => e = .returned (.tuple #[.string r1, .bool r2]) ∧ Below w.heap.size w w' := by
  unfold fill_Unescape.f at h
  by_cases hl : (bl a0).length < 140737488355328
  · rw [if_pos hl] at h
    cases h
    have := unescape (bl a0) w hl
    rwa [bl_mk] at this
  · rw [if_neg hl] at h; cases h
def fill_Escape.f (a0 : ByteArray) : Option ByteArray := if 3 * (bl a0).length < 140737488355328 then some ⟨(escR (bl a0)).toArray⟩ else none
theorem fill_Escape.calls (a0 r : ByteArray) (w : World) (h : fill_Escape.f a0 = some r) :
    Calls Tryd.prog 23 #[.string a0] w fun e w' => e = .returned (.string r) ∧ Below w.heap.size w w' := by
  unfold fill_Escape.f at h
  by_cases hl : 3 * (bl a0).length < 140737488355328
  · rw [if_pos hl] at h
    cases h
    have := escape (bl a0) w hl
    rwa [bl_mk] at this
  · rw [if_neg hl] at h; cases h
def joinR (l : List ByteArray) (s : ByteArray) : List UInt8 := Lib.join (l.map (·.data.toList)) (bl s)
def strings_Join.f (l0 : List ByteArray) (a1 : ByteArray) : Option ByteArray := if l0.length ≤ 140737488355328 ∧ (joinR l0 a1).length ≤ 140737488355328 then some ⟨(joinR l0 a1).toArray⟩ else none
theorem strings_Join.calls (A0 : Option Addr) (c0 : Nat) (l0 : List ByteArray) (a1 r : ByteArray) (w : World) (hr0 : Kd.C Kd.string w A0 l0.length l0) (hc0 : l0.length ≤ c0) (h : strings_Join.f l0 a1 = some r) :
    Calls Tryd.prog 35 #[.slice A0 l0.length c0, .string a1] w fun e w' => e = .returned (.string r) ∧ Below w.heap.size w w' := by
  unfold strings_Join.f at h
  by_cases hl : l0.length ≤ 140737488355328 ∧ (joinR l0 a1).length ≤ 140737488355328
  · rw [if_pos hl] at h
    cases h
    cases l0 with
    | nil =>
      refine (Tryd.strings_Join_none A0 c0 a1 w).mono ?_
      rintro e w' ⟨rfl, rfl⟩
      exact ⟨by simp [joinR, Lib.join_nil], Below.refl _ _⟩
    | cons x xs =>
      obtain ⟨ad, rfl, hc⟩ := hr0.2.2 (by simp)
      have hcell : ∀ (j : Nat) y, (x :: xs)[j]? = some y → w.cell? (ad.add j) = some (.string y) := by
        intro j y hj
        obtain ⟨c, hlen, hk, hcl⟩ := hc j y hj
        have hk' : c = [.string y] := hk
        subst hk'
        have := hcl 0 _ rfl
        simpa [Kd.string, Kd.scalar] using this
      have h0 := hcell 0 x rfl
      have hadd : ad.add 0 = ad := by simp [Addr.add]
      rw [hadd] at h0
      obtain ⟨b, o, sp⟩ := ad
      have hsp : sp = none := by
        cases sp with
        | none => rfl
        | some k => simp [World.cell?] at h0; cases hh : w.heap[b]? with
          | none => rw [hh] at h0; cases h0
          | some ob => rw [hh] at h0; cases ob <;> cases h0
      subst hsp
      have hb : b < w.heap.size := by
        rcases Nat.lt_or_ge b w.heap.size with h' | h'
        · exact h'
        · simp [World.cell?, Array.getElem?_eq_none h'] at h0
      exact Tryd.strings_Join b o c0 (x :: xs) a1 w (fun j y hj => by have := hcell j y hj; rwa [show (⟨b, o, none⟩ : Addr).add j = ⟨b, o + j, none⟩ by unfold Addr.add; split <;> simp_all] at this) hb hl.1 hc0 hl.2
  · rw [if_neg hl] at h; cases h
/-- Parse's own rows, in the printer's words -/
theorem parse_rows {α : Type} (g : α → ByteArray × ByteArray) (mk : Pr → α) (hg : ∀ p, g (mk p) = (⟨p.1.toArray⟩, ⟨p.2.toArray⟩)) {B : Nat} {w : World} {v : Value} {ps : List Pr} (h : OwnP B w v ps) :
    Kd.R (Kd.iso (Kd.pair Kd.string Kd.string) g) 32 w B (fun _ => True) v (ps.map mk) := by
  refine ⟨fun _ _ => trivial, pcells ps, ?_, ?_⟩
  · have := h.1
    rwa [List.length_map]
  · refine ⟨by rw [pcells_len, List.length_map]; rfl, fun j p hj => ?_⟩
    rw [List.getElem?_map] at hj
    obtain ⟨q, hq, rfl⟩ := Option.map_eq_some_iff.1 hj
    have hcs : ((pcells ps).drop (j * 2)).take 2 = [.string ⟨q.1.toArray⟩, .string ⟨q.2.toArray⟩] := by
      clear h hj
      induction ps generalizing j with
      | nil => simp at hq
      | cons p ps ih =>
        cases j with
        | zero => simp at hq; subst hq; simp [pcells]
        | succ j =>
          have := ih j (by simpa using hq)
          rw [← this]
          show ((([.string ⟨p.1.toArray⟩, .string ⟨p.2.toArray⟩] : List Value) ++ pcells ps).drop ((j + 1) * 2)).take 2 = _
          rw [show (j + 1) * 2 = 2 + j * 2 by omega, ← List.drop_drop]
          rfl
    have hcs' : ((pcells ps).drop (j * (Kd.iso (Kd.pair Kd.string Kd.string) g).sz)).take (Kd.iso (Kd.pair Kd.string Kd.string) g).sz = [.string ⟨q.1.toArray⟩, .string ⟨q.2.toArray⟩] := hcs
    rw [hcs']
    show ∃ c0 c1, _ = c0 ++ c1 ∧ c0 = [Value.string (g (mk q)).1] ∧ c1 = [Value.string (g (mk q)).2]
    rw [hg]
    exact ⟨_, _, rfl, rfl, rfl⟩
theorem parse_ints (A0 : Option Addr) (c0 : Nat) (l0 : List Int) (w : World) (hr0 : Kd.C (Kd.int .u8) w A0 l0.length l0) (hl : l0.length < 140737488355328) :
    Calls Tryd.prog 17 #[.slice A0 l0.length c0] w fun e w' => ∃ v, e = .returned (.tuple #[v, .int .u16 (parseR (bl (strOfNums l0))).2]) ∧ OwnP w.heap.size w' v (parseR (bl (strOfNums l0))).1 ∧ Below w.heap.size w w' := by
  have hlen : (bl (strOfNums l0)).length = l0.length := by simp [bl, strOfNums]
  have h := parse A0 c0 (bl (strOfNums l0)) w (fun X hX => by
    rw [hlen, bl_mk]
    exact Kd.C_string Tryd.underlying22 Tryd.underlying5 Tryd.underlying9 (Kd.C_below hr0 hX)) (by rw [hlen]; exact hl)
  rwa [hlen] at h
end Go.Proofs.YtjbghpkdehikfaaDoor.Hand
