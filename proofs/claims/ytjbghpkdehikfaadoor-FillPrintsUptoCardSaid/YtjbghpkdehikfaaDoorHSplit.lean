/- fill: SplitSeq at a sign. -/
import Derived.Test.YtjbghpkdehikfaaDoorProg
import Derived.Below
import Derived.Deep.Draws
import Derived.Deep.AppendLies
import Derived.Maps.AppendAt
import Derived.OwnWalk
import Derived.Laws.BytesArg
import Derived.Laws.MakeOwn
import Derived.Laws.OwnMore
import Derived.Deep.OwnRows
import Derived.Tactics
import Derived.Lib.ConvBytes
import Derived.Laws.Slices
import Derived.WalkKit
import Derived.KernelRfl
import Derived.RowKit3
import Derived.Deep.LoopGhost
import Derived.Deep.QuietTactic
import Derived.BigQuiet
import Derived.WideLaws
import Derived.Deep.DeepCutAuto
import Derived.Deep.CutBlock
import Derived.Deep.RegionHeld3
import Derived.Laws.Rows
import Derived.Lib.AppendStr
import Derived.ArgAppend
import Derived.Laws.IdiomCopy
import Derived.OrdersHeld
import Derived.Laws.BitsLemmas
import Derived.RowKit
import Derived.Test.YtjbghpkdehikfaaDoorWWords
import Derived.Test.YtjbghpkdehikfaaDoorWLast
import Derived.Test.YtjbghpkdehikfaaDoorWTab
import Derived.Test.YtjbghpkdehikfaaDoorWFour
import Derived.Test.YtjbghpkdehikfaaDoorWQPut
import Derived.Test.YtjbghpkdehikfaaDoorWApart
import Derived.Test.YtjbghpkdehikfaaDoorWArr
import Derived.Test.YtjbghpkdehikfaaDoorWZeros
import Derived.Test.YtjbghpkdehikfaaDoorWFoot
import Derived.Test.YtjbghpkdehikfaaDoorWKept
import Derived.Test.YtjbghpkdehikfaaDoorWShare
import Derived.Test.YtjbghpkdehikfaaDoorWN
import Derived.Test.YtjbghpkdehikfaaDoorWFootNe
import Derived.Test.YtjbghpkdehikfaaDoorWAt
import Derived.Test.YtjbghpkdehikfaaDoorWEqStruct
import Derived.Test.YtjbghpkdehikfaaDoorWRepsOne
import Derived.Test.YtjbghpkdehikfaaDoorWInv
import Derived.Test.YtjbghpkdehikfaaDoorWInvWords
import Derived.Test.YtjbghpkdehikfaaDoorWGuard
import Derived.Test.YtjbghpkdehikfaaDoorWNEv
import Derived.Test.YtjbghpkdehikfaaDoorWMore
import Derived.Outline
import Derived.RangeFuncLeaves
import Derived.RangeFuncBox
import Derived.RangeFuncCalls
import Derived.Shelf.Abstract
import Derived.Shelf.RegionOpen
import Derived.OwnWalkIn
import Derived.TacticsInMore
import Derived.LoopNIn
import Derived.LoopIn
import Derived.Test.YtjbghpkdehikfaaDoorHCut
import Derived.Test.YtjbghpkdehikfaaDoorHRange
namespace Go.Proofs.YtjbghpkdehikfaaDoor.Hand
open Go.RowKit Go.Shelf Go.Proofs.YtjbghpkdehikfaaDoorW.PrintWords Go.Proofs.YtjbghpkdehikfaaDoorW.PrintLast Go.Proofs.YtjbghpkdehikfaaDoorW.PrintMore
set_option linter.unusedVariables false
attribute [local go_sem] Oper.semAt_some
/-- a text's pieces between signs c: there is one at least -/
def splitR (c : UInt8) : List UInt8 → List (List UInt8)
  | [] => [[]]
  | x :: l => if x = c then [] :: splitR c l else (match splitR c l with | [] => [[x]] | p :: ps => (x :: p) :: ps)
theorem splitR_ne (c : UInt8) (l : List UInt8) : splitR c l ≠ [] := by
  cases l with
  | nil => simp [splitR]
  | cons x l => unfold splitR; split; · simp
                split <;> simp
theorem splitR_cons (c x : UInt8) (l : List UInt8) : splitR c (x :: l) = if x = c then [] :: splitR c l else (match splitR c l with | [] => [[x]] | p :: ps => (x :: p) :: ps) := rfl
theorem cutR_cons (c x : UInt8) (l : List UInt8) : cutR c (x :: l) = if x = c then ([], l, true) else ((x :: (cutR c l).1), (cutR c l).2) := rfl
theorem splitR_cut (c : UInt8) (l : List UInt8) : splitR c l = if (cutR c l).2.2 then (cutR c l).1 :: splitR c (cutR c l).2.1 else [l] := by
  induction l with
  | nil => rfl
  | cons x l ih =>
    rw [splitR_cons, cutR_cons]
    by_cases hx : x = c
    · rw [if_pos hx, if_pos hx]
      rfl
    · rw [if_neg hx, if_neg hx, ih]
      by_cases h : (cutR c l).2.2 = true
      · rw [if_pos h]
        simp only [h, if_true]
      · rw [if_neg h]
        simp only [h]
        rfl
theorem splitR_at (c : UInt8) (l : List UInt8) : (Lib.indexByte l c < 0 → splitR c l = [l]) ∧
    (0 ≤ Lib.indexByte l c → ∃ k : Nat, Lib.indexByte l c = k ∧ k + 1 ≤ l.length ∧ splitR c l = l.take k :: splitR c (l.drop (k + 1))) := by
  have h := cutR_at c l
  refine ⟨fun h0 => ?_, fun h0 => ?_⟩
  · rw [splitR_cut, h.1 h0]; rfl
  · obtain ⟨k, h1, h2, h3⟩ := h.2 h0
    refine ⟨k, h1, h2, ?_⟩
    rw [splitR_cut, h3]
    rfl
/-- how long the text in a box is -/
def boxLen (b : Nat) (w : World) : Nat := match w.cell? ⟨b, 0, none⟩ with | some (.string s) => s.size | _ => 0
theorem boxLen_eq {b : Nat} {w : World} {l : List UInt8} (h : Boxed w b 9 (.string ⟨l.toArray⟩)) : boxLen b w = l.length := by
  unfold boxLen
  rw [h.cell]
  rfl

set_option maxHeartbeats 800000 in
set_option maxRecDepth 100000 in
theorem splitSeq44 (s sep : ByteArray) (k : Int) (w : World) : Calls Tryd.prog 44 #[.string s, .string sep, .int .i64 k] w fun e w' =>
    e = .returned (.func (.func 52) #[] #[.pointer (some ⟨w.heap.size + 1, 0, none⟩), .pointer (some ⟨w.heap.size, 0, none⟩), .pointer (some ⟨w.heap.size + 2, 0, none⟩)]) ∧
    w' = ((w.alloc (.cells #[.string s] 9)).alloc (.cells #[.string sep] 9)).alloc (.cells #[.int .i64 k] 3) := by
  go_enter Tryd.func44, Tryd.ntmps44
  go_wp2
  go_ret
  exact ⟨rfl, rfl⟩
set_option maxHeartbeats 800000 in
set_option maxRecDepth 100000 in
theorem splitSeq29 (s sep : ByteArray) (w : World) : Calls Tryd.prog 29 #[.string s, .string sep] w fun e w' =>
    e = .returned (.func (.func 52) #[] #[.pointer (some ⟨w.heap.size + 1, 0, none⟩), .pointer (some ⟨w.heap.size, 0, none⟩), .pointer (some ⟨w.heap.size + 2, 0, none⟩)]) ∧
    w' = ((w.alloc (.cells #[.string s] 9)).alloc (.cells #[.string sep] 9)).alloc (.cells #[.int .i64 0] 3) := by
  go_enter Tryd.func29, Tryd.ntmps29
  go_wp2_with (go_at_call 44; ((with_reducible refine (splitSeq44 _ _ _ _).mono ?_); rintro e w1 ⟨rfl, rfl⟩))
  go_ret
  exact ⟨rfl, rfl⟩

/-- what a round keeps of the iterator's boxes -/
def Kp3 (bs bp bz : Nat) (A B : World) : Prop := ∀ k, k = bs ∨ k = bp ∨ k = bz → B.heap[k]? = A.heap[k]?
theorem Kp3.t {bs bp bz : Nat} {A B C : World} (h : Kp3 bs bp bz A B) (k : Kp3 bs bp bz B C) : Kp3 bs bp bz A C := fun i hi => (k i hi).trans (h i hi)

set_option maxHeartbeats 1600000 in
set_option maxRecDepth 100000 in
theorem split52 (n : Nat) (hn : 1 ≤ n) (l bs bp bz : Nat) (hsp : bs ≠ bp) (hsz : bs ≠ bz) (s : List UInt8) (hs : s.length < 4611686018427387904) (J Jx : List (List UInt8) → World → Prop)
    (hJ : ∀ q X u, J q X → J q (X.setCell ⟨bs, 0, none⟩ u))
    (hY : ∀ pre x W, J pre W → pre ++ [x] <+: splitR 38 s → YieldAt Fence.wide (n - 1) Tryd.prog l #[.string ⟨(x : List UInt8).toArray⟩] W fun e W' =>
      (e = .returned (.bool true) ∧ J (pre ++ [x]) W' ∧ Kp3 bs bp bz W W') ∨ (e = .returned (.bool false) ∧ Jx (pre ++ [x]) W'))
    (W : World) (hbs : Boxed W bs 9 (.string ⟨s.toArray⟩)) (hbp : Boxed W bp 9 (.string ⟨#[38]⟩)) (hbz : Boxed W bz 3 (.int .i64 0)) (h0 : J [] W) :
    CallsIn Fence.wide n Tryd.prog 52 #[.func (.yield l) #[] #[], .pointer (some ⟨bp, 0, none⟩), .pointer (some ⟨bs, 0, none⟩), .pointer (some ⟨bz, 0, none⟩)] W fun e W' => (∃ v, e = .returned v) ∧
      ((∃ ys, ys = splitR 38 s ∧ J ys W') ∨ (∃ pre, pre <+: splitR 38 s ∧ Jx pre W')) := by
  refine callsIn_of_wp Tryd.func52 rfl trivial ?_ rfl
  simp only [Tryd.ntmps52, List.size_toArray, List.length_cons, List.length_nil, Nat.reduceAdd, Nat.reduceSub, Array.replicate_succ, Array.replicate_zero, List.push_toArray, List.append_toArray, List.nil_append, List.cons_append]
  have c0 := hbs.cell; have c1 := hbp.cell; have c2 := hbz.cell
  gi_wp2
  clear c0 c1 c2
  gi_loopw [7, 8] (fun i f wr => ∃ (pre : List (List UInt8)) (rest : List UInt8), splitR 38 s = pre ++ splitR 38 rest ∧ rest.length ≤ s.length ∧ Boxed wr bs 9 (.string ⟨rest.toArray⟩) ∧ Boxed wr bp 9 (.string ⟨#[38]⟩) ∧ Boxed wr bz 3 (.int .i64 0) ∧ J pre wr)
    (fun _ _ wr => boxLen bs wr)
  case atStart => exact ⟨[], s, rfl, Nat.le_refl _, hbs, hbp, hbz, h0⟩
  case round =>
    obtain ⟨pre, rest, hx, hlen, hbs, hbp, hbz, hJs⟩ := hrel
    have c0 := hbs.cell; have c1 := hbp.cell; have c2 := hbz.cell
    have hsa := splitR_at 38 rest
    obtain ⟨q, hq⟩ : ∃ q, Lib.indexByte rest 38 = q := ⟨_, rfl⟩
    rw [hq] at hsa
    have hI : ∀ w, Calls Tryd.prog 43 #[.string ⟨rest.toArray⟩, .string ⟨#[38]⟩] w fun e w' => e = .returned (.int .i64 q) ∧ w' = w := fun w => by
      have := Tryd.strings_Index_one ⟨rest.toArray⟩ 38 w
      rwa [show (⟨rest.toArray⟩ : ByteArray).data.toList = rest from rfl, hq] at this
    by_cases hq0 : 0 ≤ q
    · obtain ⟨k, rfl, hk, hc⟩ := hsa.2 hq0
      have d0 : decide ((k : Int) < 0) = false := decide_eq_false (by omega)
      have q0 : (k : Int) ≤ (rest.length : Int) := by omega
      have q1 : wrap64 ((k : Int) + 1) = (k : Int) + 1 := by unfold wrap64; omega
      have q4 : wrap64 (k : Int) = (k : Int) := by unfold wrap64; omega
      have q2 : (k : Int) + 1 ≤ (rest.length : Int) := by omega
      have q3 : (0 : Int) ≤ (k : Int) + 1 := by omega
      obtain ⟨fn, tmps, assign, body, hy, hR⟩ := hY pre (rest.take k) _ hJs ⟨splitR 38 (rest.drop (k + 1)), by rw [hx, hc]; simp⟩
      rw [← ext_take rest k (by omega)] at hy
      clear hq hsa
      gi_wp2_with (refine ⟨trivial, ?_⟩; gi_at_call 43; refine (callsIn_wide.2 (hI _)).mono ?_; rintro e w1 ⟨rfl, rfl⟩)
      refine hR.mono ?_
      rintro e W3 (⟨rfl, hJ3, hk3⟩ | ⟨rfl, hJx3⟩)
      · have hbs3 : Boxed W3 bs 9 (.string ⟨rest.toArray⟩) := (hk3 _ (.inl rfl)).trans hbs
        have hbp3 : Boxed W3 bp 9 (.string ⟨#[38]⟩) := (hk3 _ (.inr (.inl rfl))).trans hbp
        have hbz3 : Boxed W3 bz 3 (.int .i64 0) := (hk3 _ (.inr (.inr rfl))).trans hbz
        have e0 := hbs3.cell; have e1 := hbp3.cell; have f0 := hbs3.frozen
        clear hy hR
        gi_wp2
        go_roundw
        case rel => exact ⟨pre ++ [rest.take k], rest.drop (k + 1), by rw [hx, hc]; simp, by simp; omega, by rw [ext_drop]; exact hbs3.set _, hbp3.kept (grownBy_setCell' _ _ _) (by simpa using hsp.symm), hbz3.kept (grownBy_setCell' _ _ _) (by simpa using hsz.symm), hJ _ _ _ hJ3⟩
        case measure => rw [ext_drop, boxLen_eq (hbs3.set _), boxLen_eq hbs]; simp; omega
      · gi_wp2
        refine bodyPost_ret (results_none rfl _ _ _) rfl ?_
        exact ⟨⟨_, rfl⟩, .inr ⟨pre ++ [rest.take k], ⟨splitR 38 (rest.drop (k + 1)), by rw [hx, hc]; simp⟩, hJx3⟩⟩
    · have d0 : decide (q < 0) = true := decide_eq_true (by omega)
      have hc := hsa.1 (by omega)
      obtain ⟨fn, tmps, assign, body, hy, hR⟩ := hY pre rest _ hJs ⟨[], by rw [hx, hc]; simp⟩
      clear hq hsa
      gi_wp2_with (refine ⟨trivial, ?_⟩; gi_at_call 43; refine (callsIn_wide.2 (hI _)).mono ?_; rintro e w1 ⟨rfl, rfl⟩)
      refine hR.mono ?_
      rintro e W3 (⟨rfl, hJ3, hk3⟩ | ⟨rfl, hJx3⟩)
      · gi_wp2
        go_end0
        exact ⟨⟨_, rfl⟩, .inl ⟨pre ++ [rest], by rw [hx, hc], hJ3⟩⟩
      · gi_wp2
        go_end0
        exact ⟨⟨_, rfl⟩, .inr ⟨pre ++ [rest], ⟨[], by rw [hx, hc]; simp⟩, hJx3⟩⟩
end Go.Proofs.YtjbghpkdehikfaaDoor.Hand
