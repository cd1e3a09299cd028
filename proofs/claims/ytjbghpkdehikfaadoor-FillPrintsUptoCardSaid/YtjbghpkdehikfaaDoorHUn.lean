/- fill: Unescape. -/
import Derived.Test.YtjbghpkdehikfaaDoorProg
import Derived.Below
import Derived.Deep.Draws
import Derived.Deep.AppendLies
import Derived.Maps.AppendAt
import Derived.OwnWalk
import Derived.Laws.BytesArg
import Derived.Laws.MakeOwn
import Derived.Laws.OwnMore
import Derived.Deep.OwnRows
import Derived.Tactics
import Derived.Lib.ConvBytes
import Derived.Laws.Slices
import Derived.WalkKit
import Derived.KernelRfl
import Derived.RowKit3
import Derived.Deep.LoopGhost
import Derived.Deep.QuietTactic
import Derived.BigQuiet
import Derived.WideLaws
import Derived.Deep.DeepCutAuto
import Derived.Deep.CutBlock
import Derived.Deep.RegionHeld3
import Derived.Laws.Rows
import Derived.Lib.AppendStr
import Derived.ArgAppend
import Derived.Laws.IdiomCopy
import Derived.OrdersHeld
import Derived.Laws.BitsLemmas
import Derived.RowKit
import Derived.Test.YtjbghpkdehikfaaDoorWWords
import Derived.Test.YtjbghpkdehikfaaDoorWLast
import Derived.Test.YtjbghpkdehikfaaDoorWTab
import Derived.Test.YtjbghpkdehikfaaDoorWFour
import Derived.Test.YtjbghpkdehikfaaDoorWQPut
import Derived.Test.YtjbghpkdehikfaaDoorWApart
import Derived.Test.YtjbghpkdehikfaaDoorWArr
import Derived.Test.YtjbghpkdehikfaaDoorWZeros
import Derived.Test.YtjbghpkdehikfaaDoorWFoot
import Derived.Test.YtjbghpkdehikfaaDoorWKept
import Derived.Test.YtjbghpkdehikfaaDoorWShare
import Derived.Test.YtjbghpkdehikfaaDoorWN
import Derived.Test.YtjbghpkdehikfaaDoorWFootNe
import Derived.Test.YtjbghpkdehikfaaDoorWAt
import Derived.Test.YtjbghpkdehikfaaDoorWEqStruct
import Derived.Test.YtjbghpkdehikfaaDoorWRepsOne
import Derived.Test.YtjbghpkdehikfaaDoorWInv
import Derived.Test.YtjbghpkdehikfaaDoorWInvWords
import Derived.Test.YtjbghpkdehikfaaDoorWGuard
import Derived.Test.YtjbghpkdehikfaaDoorWNEv
import Derived.Test.YtjbghpkdehikfaaDoorWMore
import Derived.Outline
import Derived.Test.YtjbghpkdehikfaaDoorHHex
namespace Go.Proofs.YtjbghpkdehikfaaDoor.Hand
open Go.RowKit Go.Proofs.YtjbghpkdehikfaaDoorW.PrintWords Go.Proofs.YtjbghpkdehikfaaDoorW.PrintLast Go.Proofs.YtjbghpkdehikfaaDoorW.PrintMore
set_option linter.unusedVariables false
theorem Bl.only {lo b rb : Nat} {bs : List Value} {w w' : World} (h : Bl lo b bs w) (k : Only rb w w') (hr : rb < lo) (hne : rb ≠ b) : Bl lo b bs w' := by
  obtain ⟨h1, h2, p, v, hb, hp, hown⟩ := h
  refine ⟨h1, by rw [k.size]; exact h2, p, v, (k.block b (Ne.symm hne)).trans hb, hp, ?_⟩
  refine hown.kept (row := some rb) ⟨k.os, k.tape, k.output, Nat.le_of_eq k.size.symm, fun i _ hk => k.block i (fun e => hk (by rw [e]))⟩ (Or.inr ?_)
  rcases hown.2 with ⟨rfl, _⟩ | ⟨g, cap, cur, rfl, hg, rest⟩
  · simp [Value.ownBlock]
  · simp [Value.ownBlock]; omega
theorem Rd.kept {lo b rb : Nat} {l : List UInt8} {ok : Bool} {w w' : World} (h : Rd rb l ok w) (k : Kept lo b w w') (hr : rb < lo) (hne : rb ≠ b) : Rd rb l ok w' := k.blk hr hne h
def rdLen (rb : Nat) (w : World) : Nat := match w.cell? ⟨rb, 0, none⟩ with | some (.string s) => s.size | _ => 0
theorem Rd.len {rb : Nat} {l : List UInt8} {ok : Bool} {w : World} (h : Rd rb l ok w) : rdLen rb w = l.length := by
  unfold rdLen
  rw [h.c0]
  rfl

/-- a form's text, read -/
def unR : List UInt8 → Option (List UInt8)
  | [] => some []
  | c :: l =>
    if c = 43 then (unR l).map (32 :: ·)
    else if c = 37 then
      match l with
      | a :: b :: r => if hexOk true a b then (unR r).map (hexV a b :: ·) else none
      | _ => none
    else (unR l).map (c :: ·)
def unescR (l : List UInt8) : List UInt8 × Bool := match unR l with | some o => (o, true) | none => ([], false)

/-- what a loop of Unescape keeps -/
def UnI (s l : List UInt8) (ok : Bool) (vs : List Value) : Prop :=
  vs.length + l.length ≤ s.length ∧ (ok = true → ∃ o, vs = Lib.byteCells o ∧ unR s = (unR l).map (o ++ ·)) ∧ (ok = false → unR s = none)
theorem UnI.start (s : List UInt8) : UnI s s true [] := ⟨by simp, fun _ => ⟨[], rfl, by cases unR s <;> simp⟩, fun h => by cases h⟩
theorem UnI.one {s l : List UInt8} {c d : UInt8} {vs : List Value} (h : UnI s (c :: l) true vs) (hu : unR (c :: l) = (unR l).map (d :: ·)) : UnI s l true (vs ++ [.int .u8 d.toNat]) := by
  obtain ⟨h1, h2, _⟩ := h
  obtain ⟨o, rfl, ho⟩ := h2 rfl
  refine ⟨by simp at h1 ⊢; omega, fun _ => ⟨o ++ [d], by simp [Lib.byteCells], ?_⟩, fun h => by cases h⟩
  rw [ho, hu]
  cases unR l <;> simp
theorem unR_hex (a b : UInt8) (r : List UInt8) : unR (37 :: a :: b :: r) = if hexOk true a b then (unR r).map (hexV a b :: ·) else none := by
  simp [unR]
theorem UnI.hex {s l l1 l2 : List UInt8} {a b : UInt8} {o1 o2 : Bool} {vs : List Value} {v : Int} (h : UnI s (37 :: l) true vs) (hn : nxt l true = (a, l1, o1)) (hm : nxt l1 o1 = (b, l2, o2)) (hv : hexOk o2 a b = true → v = (hexV a b).toNat) :
    UnI s l2 (hexOk o2 a b) (vs ++ [.int .u8 v]) := by
  obtain ⟨h1, h2, _⟩ := h
  obtain ⟨o, rfl, ho⟩ := h2 rfl
  have hl : l2.length ≤ l.length := by
    cases l with
    | nil => cases hn; cases hm; exact Nat.le_refl _
    | cons x l =>
      cases hn
      cases l1 with
      | nil => cases hm; simp
      | cons y l => cases hm; simp; omega
  refine ⟨by simp at h1 ⊢; omega, fun hk => ?_, fun hk => ?_⟩
  · rw [hv hk]
    refine ⟨o ++ [hexV a b], by simp [Lib.byteCells], ?_⟩
    rw [ho]
    cases l with
    | nil => cases hn; cases hm; cases hk
    | cons x l =>
      cases hn
      cases l1 with
      | nil => cases hm; cases hk
      | cons y l =>
        cases hm
        rw [unR_hex, if_pos hk]
        cases unR l2 <;> simp
  · rw [ho]
    cases l with
    | nil => simp [unR]
    | cons x l =>
      cases hn
      cases l1 with
      | nil => simp [unR]
      | cons y l =>
        cases hm
        rw [unR_hex, if_neg (by rw [hk]; decide)]
        rfl
theorem unR_plus (l : List UInt8) : unR (43 :: l) = (unR l).map ((32 : UInt8) :: ·) := by
  cases l with
  | nil => simp [unR]
  | cons a l => cases l <;> simp [unR]
theorem unR_else (c : UInt8) (l : List UInt8) (h1 : c ≠ 43) (h2 : c ≠ 37) : unR (c :: l) = (unR l).map (c :: ·) := by
  cases l with
  | nil => simp [unR, h1, h2]
  | cons a l => cases l <;> simp [unR, h1, h2]
theorem u8_ne {c d : UInt8} (h : c ≠ d) : c.toNat ≠ d.toNat := fun e => h (UInt8.toNat_inj.1 e)

theorem al_old (w : World) (o : Obj) (k : Nat) (h : k < w.heap.size) : (w.alloc o).heap[k]? = w.heap[k]? := Below.heap_alloc w o k h
theorem al_new (w : World) (o : Obj) (k : Nat) (h : k = w.heap.size) : (w.alloc o).heap[k]? = some o := by subst h; show (w.heap.push o)[w.heap.size]? = _; simp

set_option maxHeartbeats 3200000 in
set_option maxRecDepth 100000 in
theorem unescape (s : List UInt8) (w : World) (hs : s.length < 140737488355328) :
    Calls Tryd.prog 18 #[.string ⟨s.toArray⟩] w fun e w' => e = .returned (.tuple #[.string ⟨(unescR s).1.toArray⟩, .bool (unescR s).2]) ∧ Below w.heap.size w w' := by
  go_enter Tryd.func18, Tryd.ntmps18
  go_wp2
  go_loopw [6] (fun v w' => ∃ l ok vs, Aside0 (Rd w.heap.size l ok w') ∧ Aside0 (Bl (w.heap.size + 2) (w.heap.size + 1) vs w') ∧ Aside0 (UnI s l ok vs) ∧ Aside0 (Below w.heap.size w w')) (fun _ w' => rdLen w.heap.size w')
  case atStart =>
    refine ⟨s, true, [], ⟨?_⟩, ⟨?_⟩, ⟨UnI.start s⟩, ⟨?_⟩⟩
    · exact (al_old _ _ _ (by simp)).trans (al_new _ _ _ rfl)
    · exact Bl.fresh _ _ (al_new _ _ _ (by simp)) (by omega) (by simp)
    · exact ((Below.refl _ _).alloc (Nat.le_refl _) _).alloc (by simp) _
  case round =>
    obtain ⟨l, ok, vs, HR, HBl, HI, HB⟩ := hrel
    have c0 := HR.out.c0
    have c1 := HR.out.c1
    have hout : ∀ x, ok = false ∨ l = [] → unescR s = x → unescR s = x := fun _ _ h => h
    cases ok with
    | false =>
      have HU := Aside0.mk (show unescR s = ([], false) by unfold unescR; rw [HI.out.2.2 rfl])
      clear hout
      cases l with
      | nil =>
        go_wp2
        go_ret2
        rw [HU.out]
        exact ⟨rfl, HB.out⟩
      | cons c l =>
        go_wp2
        go_ret2
        rw [HU.out]
        exact ⟨rfl, HB.out⟩
    | true =>
      cases l with
      | nil =>
        obtain ⟨o, rfl, ho⟩ := HI.out.2.1 rfl
        have HU := Aside0.mk (show unescR s = (o, true) by unfold unescR; rw [ho]; simp [unR])
        have HS := Tryd.Builder_String_any (w.heap.size + 1) (w.heap.size + 1) o _ HBl.out.is (by have := HBl.out.2.1; omega)
        clear hout ho
        go_wp2_with (go_at_call 34; ((with_reducible refine HS.mono ?_); rintro e w1 ⟨rfl, hb⟩; have HB1 := Aside0.mk (HB.out.trans (hb.mono (by omega)))))
        go_ret2
        rw [HU.out]
        exact ⟨rfl, HB1.out⟩
      | cons c l =>
        clear hout
        have hlen : vs.length + 1 ≤ 140737488355328 := by have := HI.out.1; simp at this; omega
        have hm0 := Aside0.mk HR.out.len
        by_cases h43 : c = 43
        · subst h43
          have hI := Aside0.mk (HI.out.one (d := 32) (unR_plus l))
          go_wp2_with (first
            | (go_at_call 31; ((with_reducible refine (nextE (show nxt (43 :: l) true = (43, l, true) from rfl) HR.out).mono ?_); rintro e w1 ⟨rfl, h1, k1⟩))
            | (go_at_call 32; ((with_reducible refine (WriteByte (w.heap.size + 2) (w.heap.size + 1) vs _ _ (HBl.out.only k1 (by omega) (by omega)) hlen).mono ?_); rintro e w2 ⟨rfl, h2, k2⟩)))
          go_roundw
          case rel => exact ⟨l, true, _, ⟨h1.kept k2 (by omega) (by omega)⟩, ⟨h2.bl⟩, hI, ⟨HB.out.trans ((k1.below (Nat.le_refl _)).trans (k2.below (by omega) (by omega)))⟩⟩
          case measure => rw [hm0.out, (h1.kept k2 (by omega) (by omega)).len]; simp
        · have n43 : c.toNat ≠ 43 := u8_ne h43
          have e43 : ((c.toNat : Int) == 43) = false := beq_eq_false_iff_ne.2 (by omega)
          by_cases h37 : c = 37
          · subst h37
            obtain ⟨a, l1, o1, hn⟩ : ∃ a l1 o1, nxt l true = (a, l1, o1) := ⟨_, _, _, rfl⟩
            obtain ⟨b, l2, o2, hm⟩ : ∃ b l2 o2, nxt l1 o1 = (b, l2, o2) := ⟨_, _, _, rfl⟩
            have hI := Aside0.mk (fun v hv => HI.out.hex (v := v) hn hm hv)
            have hl := Aside0.mk (show l2.length ≤ l.length by
              cases l with
              | nil => cases hn; cases hm; exact Nat.le_refl _
              | cons x l =>
                cases hn
                cases l1 with
                | nil => cases hm; simp
                | cons y l => cases hm; simp; omega)
            go_wp2_with (first
              | (go_at_call 31; ((with_reducible refine (nextE (show nxt (37 :: l) true = (37, l, true) from rfl) HR.out).mono ?_); rintro e w1 ⟨rfl, h1, k1⟩))
              | (go_at_call 33; ((with_reducible refine (hex hn hm h1).mono ?_); rintro e w2 ⟨v, rfl, ⟨h2, k2⟩, hv⟩))
              | (go_at_call 32; ((with_reducible refine (WriteByte (w.heap.size + 2) (w.heap.size + 1) vs _ _ (HBl.out.only (k1.trans k2) (by omega) (by omega)) hlen).mono ?_); rintro e w3 ⟨rfl, h3, k3⟩)))
            go_roundw
            case rel => exact ⟨l2, hexOk o2 a b, _, ⟨h2.kept k3 (by omega) (by omega)⟩, ⟨h3.bl⟩, ⟨hI.out v hv⟩, ⟨HB.out.trans (((k1.trans k2).below (Nat.le_refl _)).trans (k3.below (by omega) (by omega)))⟩⟩
            case measure => rw [hm0.out, (h2.kept k3 (by omega) (by omega)).len]; have := hl.out; simp; omega
          · have n37 : c.toNat ≠ 37 := u8_ne h37
            have e37 : ((c.toNat : Int) == 37) = false := beq_eq_false_iff_ne.2 (by omega)
            have hI := Aside0.mk (HI.out.one (d := c) (unR_else c l h43 h37))
            go_wp2_with (first
              | (go_at_call 31; ((with_reducible refine (nextE (show nxt (c :: l) true = (c, l, true) from rfl) HR.out).mono ?_); rintro e w1 ⟨rfl, h1, k1⟩))
              | (go_at_call 32; ((with_reducible refine (WriteByte (w.heap.size + 2) (w.heap.size + 1) vs _ _ (HBl.out.only k1 (by omega) (by omega)) hlen).mono ?_); rintro e w2 ⟨rfl, h2, k2⟩)))
            go_roundw
            case rel => exact ⟨l, true, _, ⟨h1.kept k2 (by omega) (by omega)⟩, ⟨h2.bl⟩, hI, ⟨HB.out.trans ((k1.below (Nat.le_refl _)).trans (k2.below (by omega) (by omega)))⟩⟩
            case measure => rw [hm0.out, (h1.kept k2 (by omega) (by omega)).len]; simp
end Go.Proofs.YtjbghpkdehikfaaDoor.Hand
