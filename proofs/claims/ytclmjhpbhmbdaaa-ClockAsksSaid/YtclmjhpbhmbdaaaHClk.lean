/- What the functions of the package clock (and the reference's) return, by hand: each for whatever rules, sessions and users it is given. -/
import Derived.Test.YtclmjhpbhmbdaaaProg
import Derived.Below
import Derived.Deep.Draws
import Derived.Deep.AppendLies
import Derived.Maps.AppendAt
import Derived.OwnWalk
import Derived.Laws.BytesArg
import Derived.Laws.MakeOwn
import Derived.Laws.OwnMore
import Derived.Deep.OwnRows
import Derived.Tactics
import Derived.Lib.ConvBytes
import Derived.Laws.Slices
import Derived.WalkKit
import Derived.KernelRfl
import Derived.RowKit3
import Derived.Deep.LoopGhost
import Derived.Deep.QuietTactic
import Derived.BigQuiet
import Derived.WideLaws
import Derived.Deep.DeepCutAuto
import Derived.Deep.CutBlock
import Derived.Deep.RegionHeld3
import Derived.Laws.Rows
import Derived.Lib.AppendStr
import Derived.ArgAppend
import Derived.Laws.IdiomCopy
import Derived.OrdersHeld
import Derived.Laws.BitsLemmas
import Derived.RowKit
import Derived.Test.YtclmjhpbhmbdaaaWWords
import Derived.Test.YtclmjhpbhmbdaaaWLast
import Derived.Test.YtclmjhpbhmbdaaaWTab
import Derived.Test.YtclmjhpbhmbdaaaWFour
import Derived.Test.YtclmjhpbhmbdaaaWQPut
import Derived.Test.YtclmjhpbhmbdaaaWApart
import Derived.Test.YtclmjhpbhmbdaaaWArr
import Derived.Test.YtclmjhpbhmbdaaaWZeros
import Derived.Test.YtclmjhpbhmbdaaaWFoot
import Derived.Test.YtclmjhpbhmbdaaaWKept
import Derived.Test.YtclmjhpbhmbdaaaWShare
import Derived.Test.YtclmjhpbhmbdaaaWN
import Derived.Test.YtclmjhpbhmbdaaaWFootNe
import Derived.Test.YtclmjhpbhmbdaaaWAt
import Derived.Test.YtclmjhpbhmbdaaaWEqStruct
import Derived.Test.YtclmjhpbhmbdaaaWRepsOne
import Derived.Test.YtclmjhpbhmbdaaaWInv
import Derived.Test.YtclmjhpbhmbdaaaWInvWords
import Derived.Test.YtclmjhpbhmbdaaaWGuard
import Derived.Test.YtclmjhpbhmbdaaaWNEv
import Derived.Test.YtclmjhpbhmbdaaaWMore
import Derived.Outline
import Derived.Test.YtclmjhpbhmbdaaaHWhy
namespace Go.Proofs.Ytclmjhpbhmbdaaa.Hand
open Go.RowKit Go.Proofs.YtclmjhpbhmbdaaaW.PrintWords Go.Proofs.YtclmjhpbhmbdaaaW.PrintLast Go.Proofs.YtclmjhpbhmbdaaaW.PrintMore
attribute [local go_sem] max2_int min2_int max_two min_two max_three min_three max_four min_four
set_option linter.unusedVariables false
set_option linter.unusedSimpArgs false

theorem cells5 {W : World} {g : Nat} {t : TypeId} {c0 c1 c2 c3 c4 : Value} (h : W.heap[g]? = some (.cells #[c0, c1, c2, c3, c4] t (0, 0))) :
    W.cell? ⟨g, 0, none⟩ = some c0 ∧ W.cell? ⟨g, 1, none⟩ = some c1 ∧ W.cell? ⟨g, 2, none⟩ = some c2 ∧ W.cell? ⟨g, 3, none⟩ = some c3 ∧ W.cell? ⟨g, 4, none⟩ = some c4 :=
  ⟨(blk_cell h 0).trans rfl, (blk_cell h 1).trans rfl, (blk_cell h 2).trans rfl, (blk_cell h 3).trans rfl, (blk_cell h 4).trans rfl⟩
theorem cells6 {W : World} {g : Nat} {t : TypeId} {c0 c1 c2 c3 c4 c5 : Value} (h : W.heap[g]? = some (.cells #[c0, c1, c2, c3, c4, c5] t (0, 0))) :
    W.cell? ⟨g, 0, none⟩ = some c0 ∧ W.cell? ⟨g, 1, none⟩ = some c1 ∧ W.cell? ⟨g, 2, none⟩ = some c2 ∧ W.cell? ⟨g, 3, none⟩ = some c3 ∧ W.cell? ⟨g, 4, none⟩ = some c4 ∧ W.cell? ⟨g, 5, none⟩ = some c5 :=
  ⟨(blk_cell h 0).trans rfl, (blk_cell h 1).trans rfl, (blk_cell h 2).trans rfl, (blk_cell h 3).trans rfl, (blk_cell h 4).trans rfl, (blk_cell h 5).trans rfl⟩
theorem blk_new1 (w : World) (o o2 : Obj) : ((w.alloc o).alloc o2).heap[w.heap.size + 1]? = some o2 := by simpa using blk_new (w.alloc o) o2

def addV (a b : Int) : Int := if IntKind.u64.wrap (a + b) ≥ a then IntKind.u64.wrap (a + b) else 18446744073709551615
theorem add_any (a b : Int) (w : World) : Calls Try.prog 22 #[.int .u64 a, .int .u64 b] w fun e w' => e = .returned (.int .u64 (addV a b)) ∧ ∃ n, w' = w.drewN n := by
  unfold addV
  by_cases h : IntKind.u64.wrap (a + b) ≥ a
  · have d1 : decide (a ≤ IntKind.u64.wrap (a + b)) = true := decide_eq_true h
    rw [if_pos h]
    clear h
    go_enter Try.func22, Try.ntmps22
    go_wp2
    go_ret
    exact ⟨rfl, ⟨0, rfl⟩⟩
  · have d1 : decide (a ≤ IntKind.u64.wrap (a + b)) = false := decide_eq_false h
    rw [if_neg h]
    clear h
    go_enter Try.func22, Try.ntmps22
    go_wp2
    go_ret
    exact ⟨rfl, ⟨0, rfl⟩⟩
theorem tick_any (a : Int) (w : World) : Calls Try.prog 20 #[.int .u64 a] w fun e w' => e = .returned (.int .u64 (addV a 1)) ∧ ∃ n, w' = w.drewN n := by
  go_enter Try.func20, Try.ntmps20
  go_wp2_with (first | (go_at_call 22; ((with_reducible refine (add_any _ _ _).mono ?_); rintro e w1 ⟨rfl, nd, rfl⟩)))
  go_ret
  exact ⟨rfl, ⟨_, rfl⟩⟩
theorem live_any (r0 r1 r2 r3 : Int) (A : Option Addr) (n c : Nat) (t : Int) (i u : ByteArray) (born seen : Int) (dead : Bool) (w : World) : Calls Try.prog 16 #[.agg #[.int .u64 r0, .int .u64 r1, .int .u64 r2, .int .i64 r3, .slice A n c], .int .u64 t, .agg #[.string i, .string u, .int .u64 born, .int .u64 seen, .bool dead]] w fun e w' => e = .returned (.bool (whyV dead (pastB t born r1) (pastB t seen r0) == 0)) ∧ Below w.heap.size w w' := by
  go_enter Try.func16, Try.ntmps16
  go_wp2_with (first | (go_at_call 19; ((with_reducible refine (why_any _ _ _ _ _ _ _ _ _ _ _ _ _ _).mono ?_); rintro e w1 ⟨rfl, hb⟩; have kA := Aside0.mk (blk_below (blk_alloc (blk_new _ _) _) hb); have kB := Aside0.mk (blk_below (blk_new1 _ _ _) hb); have HB := Aside0.mk (below_step (below_alloc (below_alloc (Below.refl w.heap.size w) _) _) hb); clear hb)))
  go_ret
  exact ⟨rfl, HB.out⟩
def shutB (wait t fails last : Int) : Bool := if fails ≥ 5 then !pastB t last wait else false
theorem shut_any (r0 r1 r2 r3 : Int) (A : Option Addr) (n c : Nat) (t : Int) (s : ByteArray) (A1 : Option Addr) (n1 c1 : Nat) (A2 : Option Addr) (n2 c2 : Nat) (o : ByteArray) (fails last : Int) (w : World) : Calls Try.prog 21 #[.agg #[.int .u64 r0, .int .u64 r1, .int .u64 r2, .int .i64 r3, .slice A n c], .int .u64 t, .agg #[.string s, .slice A1 n1 c1, .slice A2 n2 c2, .string o, .int .i64 fails, .int .u64 last]] w fun e w' => e = .returned (.bool (shutB r2 t fails last)) ∧ Below w.heap.size w w' := by
  unfold shutB
  by_cases h : fails ≥ 5
  · rw [if_pos h]
    have d1 : decide (5 ≤ fails) = true := decide_eq_true h
    clear h
    go_enter Try.func21, Try.ntmps21
    go_wp2_with (first | (go_at_call 28; ((with_reducible refine (past_any _ _ _ _).mono ?_); rintro e w1 ⟨rfl, nd, rfl⟩)))
    go_ret
    exact ⟨rfl, pw_below_drewN (below_alloc (below_alloc (Below.refl _ _) _) _) _⟩
  · rw [if_neg h]
    have d1 : decide (5 ≤ fails) = false := decide_eq_false h
    clear h
    go_enter Try.func21, Try.ntmps21
    go_wp2
    go_ret
    exact ⟨rfl, below_alloc (below_alloc (Below.refl _ _) _) _⟩
def leftV0 (idle age t born seen : Int) : Int := mn (IntKind.u64.wrap (age - IntKind.u64.wrap (mx t born - born))) (IntKind.u64.wrap (idle - IntKind.u64.wrap (mx t seen - seen)))
def leftV (idle age t born seen : Int) (dead : Bool) : Int := if (whyV dead (pastB t born age) (pastB t seen idle) == 0) = true then leftV0 idle age t born seen else 0
theorem left_any (r0 r1 r2 r3 : Int) (A : Option Addr) (n c : Nat) (t : Int) (i u : ByteArray) (born seen : Int) (dead : Bool) (w : World) : Calls Try.prog 17 #[.agg #[.int .u64 r0, .int .u64 r1, .int .u64 r2, .int .i64 r3, .slice A n c], .int .u64 t, .agg #[.string i, .string u, .int .u64 born, .int .u64 seen, .bool dead]] w fun e w' => e = .returned (.int .u64 (leftV r0 r1 t born seen dead)) ∧ Below w.heap.size w w' := by
  unfold leftV
  obtain ⟨b, hbb⟩ : ∃ b, (whyV dead (pastB t born r1) (pastB t seen r0) == 0) = b := ⟨_, rfl⟩
  have cl : ∀ W, Calls Try.prog 16 #[.agg #[.int .u64 r0, .int .u64 r1, .int .u64 r2, .int .i64 r3, .slice A n c], .int .u64 t, .agg #[.string i, .string u, .int .u64 born, .int .u64 seen, .bool dead]] W fun e w' => e = .returned (.bool b) ∧ Below W.heap.size W w' := fun W => by rw [← hbb]; exact live_any r0 r1 r2 r3 A n c t i u born seen dead W
  rw [hbb]
  clear hbb
  cases b with
  | false =>
    go_enter Try.func17, Try.ntmps17
    go_wp2_with (first | (go_at_call 16; ((with_reducible refine (cl _).mono ?_); rintro e w1 ⟨rfl, hb⟩; have kA := Aside0.mk (blk_below (blk_alloc (blk_new _ _) _) hb); have kB := Aside0.mk (blk_below (blk_new1 _ _ _) hb); have HB := Aside0.mk (below_step (below_alloc (below_alloc (Below.refl w.heap.size w) _) _) hb); clear hb)))
    go_ret
    exact ⟨rfl, HB.out⟩
  | true =>
    rw [if_pos rfl]
    unfold leftV0
    obtain ⟨x1, e1⟩ : ∃ x, mx t born = x := ⟨_, rfl⟩
    obtain ⟨x2, e2⟩ : ∃ x, mx t seen = x := ⟨_, rfl⟩
    rw [e1, e2]
    obtain ⟨y1, f1⟩ : ∃ x, IntKind.u64.wrap (r1 - IntKind.u64.wrap (x1 - born)) = x := ⟨_, rfl⟩
    obtain ⟨y2, f2⟩ : ∃ x, IntKind.u64.wrap (r0 - IntKind.u64.wrap (x2 - seen)) = x := ⟨_, rfl⟩
    rw [f1, f2]
    obtain ⟨z, g⟩ : ∃ x, mn y1 y2 = x := ⟨_, rfl⟩
    rw [g]
    have e1' : (if t < born then born else t) = x1 := e1
    have e2' : (if t < seen then seen else t) = x2 := e2
    have g' : (if y2 < y1 then y2 else y1) = z := g
    clear e1 e2 g
    go_enter Try.func17, Try.ntmps17
    go_wp2_with (first | (go_at_call 16; ((with_reducible refine (cl _).mono ?_); rintro e w1 ⟨rfl, hb⟩; have kA := Aside0.mk (blk_below (blk_alloc (blk_new _ _) _) hb); have kB := Aside0.mk (blk_below (blk_new1 _ _ _) hb); have HB := Aside0.mk (below_step (below_alloc (below_alloc (Below.refl w.heap.size w) _) _) hb); clear hb; obtain ⟨a0, a1, a2, a3, a4⟩ := cells5 kA.out; obtain ⟨b0, b1, b2, b3, b4⟩ := cells5 kB.out)))
    go_ret
    exact ⟨rfl, HB.out⟩
end Go.Proofs.Ytclmjhpbhmbdaaa.Hand
