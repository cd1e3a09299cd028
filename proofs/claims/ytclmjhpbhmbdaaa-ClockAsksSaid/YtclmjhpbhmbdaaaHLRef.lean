/- What the reference of the clock returns, by hand. -/
import Derived.Test.YtclmjhpbhmbdaaaProg
import Derived.Below
import Derived.Deep.Draws
import Derived.Deep.AppendLies
import Derived.Maps.AppendAt
import Derived.OwnWalk
import Derived.Laws.BytesArg
import Derived.Laws.MakeOwn
import Derived.Laws.OwnMore
import Derived.Deep.OwnRows
import Derived.Tactics
import Derived.Lib.ConvBytes
import Derived.Laws.Slices
import Derived.WalkKit
import Derived.KernelRfl
import Derived.RowKit3
import Derived.Deep.LoopGhost
import Derived.Deep.QuietTactic
import Derived.BigQuiet
import Derived.WideLaws
import Derived.Deep.DeepCutAuto
import Derived.Deep.CutBlock
import Derived.Deep.RegionHeld3
import Derived.Laws.Rows
import Derived.Lib.AppendStr
import Derived.ArgAppend
import Derived.Laws.IdiomCopy
import Derived.OrdersHeld
import Derived.Laws.BitsLemmas
import Derived.RowKit
import Derived.Test.YtclmjhpbhmbdaaaWWords
import Derived.Test.YtclmjhpbhmbdaaaWLast
import Derived.Test.YtclmjhpbhmbdaaaWTab
import Derived.Test.YtclmjhpbhmbdaaaWFour
import Derived.Test.YtclmjhpbhmbdaaaWQPut
import Derived.Test.YtclmjhpbhmbdaaaWApart
import Derived.Test.YtclmjhpbhmbdaaaWArr
import Derived.Test.YtclmjhpbhmbdaaaWZeros
import Derived.Test.YtclmjhpbhmbdaaaWFoot
import Derived.Test.YtclmjhpbhmbdaaaWKept
import Derived.Test.YtclmjhpbhmbdaaaWShare
import Derived.Test.YtclmjhpbhmbdaaaWN
import Derived.Test.YtclmjhpbhmbdaaaWFootNe
import Derived.Test.YtclmjhpbhmbdaaaWAt
import Derived.Test.YtclmjhpbhmbdaaaWEqStruct
import Derived.Test.YtclmjhpbhmbdaaaWRepsOne
import Derived.Test.YtclmjhpbhmbdaaaWInv
import Derived.Test.YtclmjhpbhmbdaaaWInvWords
import Derived.Test.YtclmjhpbhmbdaaaWGuard
import Derived.Test.YtclmjhpbhmbdaaaWNEv
import Derived.Test.YtclmjhpbhmbdaaaWMore
import Derived.Outline
import Derived.Test.YtclmjhpbhmbdaaaHClk
import Derived.Test.YtclmjhpbhmbdaaaHGet
import Derived.Test.YtclmjhpbhmbdaaaHLFact
import Derived.Test.YtclmjhpbhmbdaaaHLRight
namespace Go.Proofs.Ytclmjhpbhmbdaaa.Hand
open Go.RowKit Go.Proofs.YtclmjhpbhmbdaaaW.PrintWords Go.Proofs.YtclmjhpbhmbdaaaW.PrintLast Go.Proofs.YtclmjhpbhmbdaaaW.PrintMore
attribute [local go_sem] max2_int min2_int max_two min_two max_three min_three max_four min_four
set_option linter.unusedVariables false
set_option linter.unusedSimpArgs false


theorem rpast_any (a0 a1 a2 : Int) (w : World) : Calls Try.prog 29 #[.int .u64 a0, .int .u64 a1, .int .u64 a2] w fun e w' => e = .returned (.bool (pastB a0 a1 a2)) ∧ ∃ n, w' = w.drewN n := by
  unfold pastB
  by_cases h : a0 > a1
  · have d1 : decide (a1 < a0) = true := decide_eq_true h
    rw [decide_eq_true h, Bool.true_and]
    go_enter Try.func29, Try.ntmps29
    go_wp2
    go_ret
    exact ⟨by first | rfl | (simp [*]; done), ⟨0, rfl⟩⟩
  · have d1 : decide (a1 < a0) = false := decide_eq_false h
    rw [decide_eq_false h, Bool.false_and]
    go_enter Try.func29, Try.ntmps29
    go_wp2
    go_ret
    exact ⟨by first | rfl | (simp [*]; done), ⟨0, rfl⟩⟩
theorem radd_any (a b : Int) (ha : 0 ≤ a ∧ a < 18446744073709551616) (hb : 0 ≤ b ∧ b < 18446744073709551616) (w : World) : Calls Try.prog 27 #[.int .u64 a, .int .u64 b] w fun e w' => e = .returned (.int .u64 (addV a b)) ∧ ∃ n, w' = w.drewN n := by
  have e : addV a b = if b > IntKind.u64.wrap (18446744073709551615 - a) then 18446744073709551615 else IntKind.u64.wrap (a + b) := by
    unfold addV
    rw [IntKind.wrap_u64, IntKind.wrap_u64]
    split <;> split <;> first | rfl | omega
  rw [e]
  clear e
  by_cases h : b > IntKind.u64.wrap (18446744073709551615 - a)
  · have d1 : decide (IntKind.u64.wrap (18446744073709551615 - a) < b) = true := decide_eq_true h
    rw [if_pos h]
    clear h ha hb
    go_enter Try.func27, Try.ntmps27
    go_wp2
    go_ret
    exact ⟨rfl, ⟨0, rfl⟩⟩
  · have d1 : decide (IntKind.u64.wrap (18446744073709551615 - a) < b) = false := decide_eq_false h
    rw [if_neg h]
    clear h ha hb
    go_enter Try.func27, Try.ntmps27
    go_wp2
    go_ret
    exact ⟨rfl, ⟨0, rfl⟩⟩
theorem rtick_any (a : Int) (ha : 0 ≤ a ∧ a < 18446744073709551616) (w : World) : Calls Try.prog 35 #[.int .u64 a] w fun e w' => e = .returned (.int .u64 (addV a 1)) ∧ ∃ n, w' = w.drewN n := by
  have cr : ∀ W, Calls Try.prog 27 #[.int .u64 a, .int .u64 1] W fun e w' => e = .returned (.int .u64 (addV a 1)) ∧ ∃ n, w' = W.drewN n := radd_any a 1 ha (by decide)
  clear ha
  go_enter Try.func35, Try.ntmps35
  go_wp2_with (first | (go_at_call 27; ((with_reducible refine (cr _).mono ?_); rintro e w1 ⟨rfl, nd, rfl⟩)))
  go_ret
  exact ⟨rfl, ⟨_, rfl⟩⟩
theorem rwhy_any (r0 r1 r2 r3 : Int) (A : Option Addr) (n c : Nat) (t : Int) (i u : ByteArray) (born seen : Int) (dead : Bool) (w : World) : Calls Try.prog 37 #[.agg #[.int .u64 r0, .int .u64 r1, .int .u64 r2, .int .i64 r3, .slice A n c], .int .u64 t, .agg #[.string i, .string u, .int .u64 born, .int .u64 seen, .bool dead]] w fun e w' => e = .returned (.int .i64 (whyV dead (pastB t born r1) (pastB t seen r0))) ∧ Below w.heap.size w w' := by
  obtain ⟨p, hp⟩ : ∃ p, pastB t born r1 = p := ⟨_, rfl⟩
  obtain ⟨q, hq⟩ : ∃ q, pastB t seen r0 = q := ⟨_, rfl⟩
  cases dead with
  | true =>
    rw [show whyV true (pastB t born r1) (pastB t seen r0) = 1 by unfold whyV; rw [if_pos rfl]]
    clear hp hq
    go_enter Try.func37, Try.ntmps37
    go_wp2
    go_ret
    exact ⟨rfl, below_alloc (below_alloc (Below.refl _ _) _) _⟩
  | false =>
    cases p with
    | true =>
      rw [show whyV false (pastB t born r1) (pastB t seen r0) = 2 by rw [hp]; rfl]
      clear hq
      go_enter Try.func37, Try.ntmps37
      go_wp2_with (first | (go_at_call 29; ((with_reducible refine (rpast_any _ _ _ _).mono ?_); rintro e w1 ⟨rfl, nd, rfl⟩)))
      go_ret
      exact ⟨rfl, pw_below_drewN (below_alloc (below_alloc (Below.refl _ _) _) _) _⟩
    | false =>
      cases q with
      | true =>
        rw [show whyV false (pastB t born r1) (pastB t seen r0) = 3 by rw [hp, hq]; rfl]
        go_enter Try.func37, Try.ntmps37
        go_wp2_with (first | (go_at_call 29; ((with_reducible refine (rpast_any _ _ _ _).mono ?_); rintro e w1 ⟨rfl, nd, rfl⟩)))
        go_ret
        exact ⟨rfl, pw_below_drewN (below_alloc (below_alloc (Below.refl _ _) _) _) _⟩
      | false =>
        rw [show whyV false (pastB t born r1) (pastB t seen r0) = 0 by rw [hp, hq]; rfl]
        go_enter Try.func37, Try.ntmps37
        go_wp2_with (first | (go_at_call 29; ((with_reducible refine (rpast_any _ _ _ _).mono ?_); rintro e w1 ⟨rfl, nd, rfl⟩)))
        go_ret
        exact ⟨rfl, pw_below_drewN (below_alloc (below_alloc (Below.refl _ _) _) _) _⟩
theorem rlive_any (r0 r1 r2 r3 : Int) (A : Option Addr) (n c : Nat) (t : Int) (i u : ByteArray) (born seen : Int) (dead : Bool) (w : World) : Calls Try.prog 36 #[.agg #[.int .u64 r0, .int .u64 r1, .int .u64 r2, .int .i64 r3, .slice A n c], .int .u64 t, .agg #[.string i, .string u, .int .u64 born, .int .u64 seen, .bool dead]] w fun e w' => e = .returned (.bool (liveZ dead t born r1 seen r0)) ∧ Below w.heap.size w w' := by
  unfold liveZ
  go_enter Try.func36, Try.ntmps36
  go_wp2_with (first | (go_at_call 37; ((with_reducible refine (rwhy_any _ _ _ _ _ _ _ _ _ _ _ _ _ _).mono ?_); rintro e w1 ⟨rfl, hb⟩; (first | (have kA := Aside0.mk (blk_below kA.out hb); have kB := Aside0.mk (blk_below kB.out hb); have HB := Aside0.mk (below_step HB.out hb); clear hb a0 a1 a2 a3 a4 b0 b1 b2 b3 b4) | (have kA := Aside0.mk (blk_below (blk_alloc (blk_new _ _) _) hb); have kB := Aside0.mk (blk_below (blk_new1 _ _ _) hb); have HB := Aside0.mk (below_step (below_alloc (below_alloc (Below.refl w.heap.size w) _) _) hb); clear hb)); obtain ⟨a0, a1, a2, a3, a4⟩ := cells5 kA.out; obtain ⟨b0, b1, b2, b3, b4⟩ := cells5 kB.out)))
  go_ret
  exact ⟨rfl, HB.out⟩
theorem rshut_any (r0 r1 r2 r3 : Int) (A : Option Addr) (n c : Nat) (t : Int) (s : ByteArray) (A1 : Option Addr) (n1 c1 : Nat) (A2 : Option Addr) (n2 c2 : Nat) (o : ByteArray) (fails last : Int) (w : World) : Calls Try.prog 39 #[.agg #[.int .u64 r0, .int .u64 r1, .int .u64 r2, .int .i64 r3, .slice A n c], .int .u64 t, .agg #[.string s, .slice A1 n1 c1, .slice A2 n2 c2, .string o, .int .i64 fails, .int .u64 last]] w fun e w' => e = .returned (.bool (shutB r2 t fails last)) ∧ Below w.heap.size w w' := by
  unfold shutB
  by_cases h : fails ≥ 5
  · rw [if_pos h]
    have d1 : decide (5 ≤ fails) = true := decide_eq_true h
    clear h
    go_enter Try.func39, Try.ntmps39
    go_wp2_with (first | (go_at_call 29; ((with_reducible refine (rpast_any _ _ _ _).mono ?_); rintro e w1 ⟨rfl, nd, rfl⟩)))
    go_ret
    exact ⟨rfl, pw_below_drewN (below_alloc (below_alloc (Below.refl _ _) _) _) _⟩
  · rw [if_neg h]
    have d1 : decide (5 ≤ fails) = false := decide_eq_false h
    clear h
    go_enter Try.func39, Try.ntmps39
    go_wp2
    go_ret
    exact ⟨rfl, below_alloc (below_alloc (Below.refl _ _) _) _⟩
def lessV (most t thn : Int) : Int := if t ≤ thn then most else IntKind.u64.wrap (most - IntKind.u64.wrap (t - thn))
theorem rless_any (a b c : Int) (w : World) : Calls Try.prog 40 #[.int .u64 a, .int .u64 b, .int .u64 c] w fun e w' => e = .returned (.int .u64 (lessV a b c)) ∧ w' = w := by
  unfold lessV
  by_cases h : b ≤ c
  · have d1 : decide (b ≤ c) = true := decide_eq_true h
    rw [if_pos h]
    clear h
    go_enter Try.func40, Try.ntmps40
    go_wp2
    go_ret
    exact ⟨rfl, rfl⟩
  · have d1 : decide (b ≤ c) = false := decide_eq_false h
    rw [if_neg h]
    clear h
    go_enter Try.func40, Try.ntmps40
    go_wp2
    go_ret
    exact ⟨rfl, rfl⟩
theorem less_is (most t thn : Int) (h : 0 ≤ most ∧ most < 18446744073709551616) : lessV most t thn = IntKind.u64.wrap (most - IntKind.u64.wrap (mx t thn - thn)) := by
  unfold lessV mx
  by_cases g : t ≤ thn
  · rw [if_pos g]
    have e : (if t < thn then thn else t) - thn = 0 := by split <;> omega
    rw [e, IntKind.wrap_u64, IntKind.wrap_u64]
    omega
  · rw [if_neg g, if_neg (by omega)]
theorem rleft_any (r0 r1 r2 r3 : Int) (A : Option Addr) (n c : Nat) (t : Int) (i u : ByteArray) (born seen : Int) (dead : Bool) (w : World) (h0 : 0 ≤ r0 ∧ r0 < 18446744073709551616) (h1 : 0 ≤ r1 ∧ r1 < 18446744073709551616) : Calls Try.prog 38 #[.agg #[.int .u64 r0, .int .u64 r1, .int .u64 r2, .int .i64 r3, .slice A n c], .int .u64 t, .agg #[.string i, .string u, .int .u64 born, .int .u64 seen, .bool dead]] w fun e w' => e = .returned (.int .u64 (leftV r0 r1 t born seen dead)) ∧ Below w.heap.size w w' := by
  have e : leftV r0 r1 t born seen dead = if liveZ dead t born r1 seen r0 = true then mn (lessV r1 t born) (lessV r0 t seen) else 0 := by
    unfold leftV leftV0 liveZ; rw [less_is _ _ _ h0, less_is _ _ _ h1]
  rw [e]
  clear e h0 h1
  obtain ⟨b, hbb⟩ : ∃ b, liveZ dead t born r1 seen r0 = b := ⟨_, rfl⟩
  rw [hbb]
  cases b with
  | false =>
    go_enter Try.func38, Try.ntmps38
    go_wp2_with (first | (go_at_call 36; ((with_reducible refine (rlive_any _ _ _ _ _ _ _ _ _ _ _ _ _ _).mono ?_); rintro e w1 ⟨rfl, hb⟩; (first | (have kA := Aside0.mk (blk_below kA.out hb); have kB := Aside0.mk (blk_below kB.out hb); have HB := Aside0.mk (below_step HB.out hb); clear hb a0 a1 a2 a3 a4 b0 b1 b2 b3 b4) | (have kA := Aside0.mk (blk_below (blk_alloc (blk_new _ _) _) hb); have kB := Aside0.mk (blk_below (blk_new1 _ _ _) hb); have HB := Aside0.mk (below_step (below_alloc (below_alloc (Below.refl w.heap.size w) _) _) hb); clear hb)); obtain ⟨a0, a1, a2, a3, a4⟩ := cells5 kA.out; obtain ⟨b0, b1, b2, b3, b4⟩ := cells5 kB.out)))
    go_ret
    exact ⟨rfl, HB.out⟩
  | true =>
    rw [if_pos rfl]
    obtain ⟨y1, f1⟩ : ∃ x, lessV r1 t born = x := ⟨_, rfl⟩
    obtain ⟨y2, f2⟩ : ∃ x, lessV r0 t seen = x := ⟨_, rfl⟩
    rw [f1, f2]
    obtain ⟨z, g⟩ : ∃ x, mn y1 y2 = x := ⟨_, rfl⟩
    rw [g]
    have c1 : ∀ W, Calls Try.prog 40 #[.int .u64 r1, .int .u64 t, .int .u64 born] W fun e w' => e = .returned (.int .u64 y1) ∧ w' = W := fun W => by rw [← f1]; exact rless_any r1 t born W
    have c2 : ∀ W, Calls Try.prog 40 #[.int .u64 r0, .int .u64 t, .int .u64 seen] W fun e w' => e = .returned (.int .u64 y2) ∧ w' = W := fun W => by rw [← f2]; exact rless_any r0 t seen W
    have g' : (if y2 < y1 then y2 else y1) = z := g
    clear f1 f2 g
    go_enter Try.func38, Try.ntmps38
    go_wp2_with (first | (go_at_call 36; ((with_reducible refine (rlive_any _ _ _ _ _ _ _ _ _ _ _ _ _ _).mono ?_); rintro e w1 ⟨rfl, hb⟩; (first | (have kA := Aside0.mk (blk_below kA.out hb); have kB := Aside0.mk (blk_below kB.out hb); have HB := Aside0.mk (below_step HB.out hb); clear hb a0 a1 a2 a3 a4 b0 b1 b2 b3 b4) | (have kA := Aside0.mk (blk_below (blk_alloc (blk_new _ _) _) hb); have kB := Aside0.mk (blk_below (blk_new1 _ _ _) hb); have HB := Aside0.mk (below_step (below_alloc (below_alloc (Below.refl w.heap.size w) _) _) hb); clear hb)); obtain ⟨a0, a1, a2, a3, a4⟩ := cells5 kA.out; obtain ⟨b0, b1, b2, b3, b4⟩ := cells5 kB.out)))
    go_quiet (first | (go_at_call_of 40 born; exact Calls.quiet_of_same (c1 _)) | (go_at_call_of 40 seen; exact Calls.quiet_of_same (c2 _)))
    go_wp2
    go_ret
    exact ⟨rfl, pw_below_drewN HB.out _⟩

end Go.Proofs.Ytclmjhpbhmbdaaa.Hand
