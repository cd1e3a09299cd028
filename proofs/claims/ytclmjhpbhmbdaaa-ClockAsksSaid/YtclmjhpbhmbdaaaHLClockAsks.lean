/- ClockAsks by hand. -/
import Derived.Test.YtclmjhpbhmbdaaaProg
import Derived.Below
import Derived.Deep.Draws
import Derived.Deep.AppendLies
import Derived.Maps.AppendAt
import Derived.OwnWalk
import Derived.Laws.BytesArg
import Derived.Laws.MakeOwn
import Derived.Laws.OwnMore
import Derived.Deep.OwnRows
import Derived.Tactics
import Derived.Lib.ConvBytes
import Derived.Laws.Slices
import Derived.WalkKit
import Derived.KernelRfl
import Derived.RowKit3
import Derived.Deep.LoopGhost
import Derived.Deep.QuietTactic
import Derived.BigQuiet
import Derived.WideLaws
import Derived.Deep.DeepCutAuto
import Derived.Deep.CutBlock
import Derived.Deep.RegionHeld3
import Derived.Laws.Rows
import Derived.Lib.AppendStr
import Derived.ArgAppend
import Derived.Laws.IdiomCopy
import Derived.OrdersHeld
import Derived.Laws.BitsLemmas
import Derived.RowKit
import Derived.Test.YtclmjhpbhmbdaaaWWords
import Derived.Test.YtclmjhpbhmbdaaaWLast
import Derived.Test.YtclmjhpbhmbdaaaWTab
import Derived.Test.YtclmjhpbhmbdaaaWFour
import Derived.Test.YtclmjhpbhmbdaaaWQPut
import Derived.Test.YtclmjhpbhmbdaaaWApart
import Derived.Test.YtclmjhpbhmbdaaaWArr
import Derived.Test.YtclmjhpbhmbdaaaWZeros
import Derived.Test.YtclmjhpbhmbdaaaWFoot
import Derived.Test.YtclmjhpbhmbdaaaWKept
import Derived.Test.YtclmjhpbhmbdaaaWShare
import Derived.Test.YtclmjhpbhmbdaaaWN
import Derived.Test.YtclmjhpbhmbdaaaWFootNe
import Derived.Test.YtclmjhpbhmbdaaaWAt
import Derived.Test.YtclmjhpbhmbdaaaWEqStruct
import Derived.Test.YtclmjhpbhmbdaaaWRepsOne
import Derived.Test.YtclmjhpbhmbdaaaWInv
import Derived.Test.YtclmjhpbhmbdaaaWInvWords
import Derived.Test.YtclmjhpbhmbdaaaWGuard
import Derived.Test.YtclmjhpbhmbdaaaWNEv
import Derived.Test.YtclmjhpbhmbdaaaWMore
import Derived.Outline
import Derived.BigRegion
import Derived.Test.YtclmjhpbhmbdaaaHLFact
import Derived.Test.YtclmjhpbhmbdaaaHLRight
import Derived.Test.YtclmjhpbhmbdaaaHLRef
import Derived.Test.YtclmjhpbhmbdaaaHLAsks
import Derived.Test.YtclmjhpbhmbdaaaHLClockRight
namespace Go.Proofs.Ytclmjhpbhmbdaaa.Hand
open Go.RowKit Go.Proofs.YtclmjhpbhmbdaaaW.PrintWords Go.Proofs.YtclmjhpbhmbdaaaW.PrintLast Go.Proofs.YtclmjhpbhmbdaaaW.PrintMore
attribute [local go_sem] max2_int min2_int max_two min_two max_three min_three max_four min_four
set_option linter.unusedVariables false
set_option linter.unusedSimpArgs false
theorem i64_small (x : Int) (h : -9223372036854775808 ≤ x ∧ x < 9223372036854775808) : IntKind.i64.wrap x = x := by
  simp [IntKind.wrap, IntKind.min, IntKind.max, IntKind.bits, IntKind.signed]; omega
theorem u64_rng (x : Int) : 0 ≤ IntKind.u64.wrap x ∧ IntKind.u64.wrap x < 18446744073709551616 := by
  rw [IntKind.wrap_u64]; omega
theorem mk_len (d : Int) (h : 0 ≤ d ∧ d < 256) : IntKind.i64.wrap (10 + IntKind.i64.wrap (d.tmod 60)) = ((10 + d % 60).toNat : Int) := by
  rw [Int.tmod_eq_emod_of_nonneg h.1, i64_small (d % 60) (by omega), i64_small _ (by omega)]; omega
def asksMid (w wx : World) (BA BB BC BQ : Obj) (Q : Nat) : Prop := wx.heap[w.heap.size]? = some BA ∧ wx.heap[w.heap.size + 1]? = some BB ∧ wx.heap[w.heap.size + 1 + 1]? = some BC ∧ wx.heap[Q]? = some BQ ∧ w.heap.size + 1 + 1 < Q ∧ Q < wx.heap.size ∧ Below w.heap.size w wx
theorem mid_a {w w1 : World} {BA BB BC o1 o2 : Obj} (a : w1.heap[w.heap.size]? = some BA) (b : w1.heap[w.heap.size + 1]? = some BB) (c : w1.heap[w.heap.size + 1 + 1]? = some BC) (h : Below w.heap.size w w1) (l : w.heap.size + 1 + 1 < w1.heap.size) :
    asksMid w (((w1.alloc o1).alloc o2).drew) BA BB BC o2 (w1.heap.size + 1) :=
  ⟨blk_alloc (blk_alloc a _) _, blk_alloc (blk_alloc b _) _, blk_alloc (blk_alloc c _) _, blk_new1 _ _ _, by omega, by show _ < (((w1.alloc o1).alloc o2).heap.size); simp, pw_below_drewN (below_alloc (below_alloc h _) _) 1⟩
theorem mid_b {w w1 : World} {BA BB BC o1 o2 : Obj} (a : w1.heap[w.heap.size]? = some BA) (b : w1.heap[w.heap.size + 1]? = some BB) (c : w1.heap[w.heap.size + 1 + 1]? = some BC) (h : Below w.heap.size w w1) (l : w.heap.size + 1 + 1 < w1.heap.size) :
    asksMid w (((w1.alloc o1).alloc o2).drew) BA BB BC o1 w1.heap.size :=
  ⟨blk_alloc (blk_alloc a _) _, blk_alloc (blk_alloc b _) _, blk_alloc (blk_alloc c _) _, blk_alloc (blk_new _ _) _, l, by show _ < (((w1.alloc o1).alloc o2).heap.size); simp; omega, pw_below_drewN (below_alloc (below_alloc h _) _) 1⟩
theorem below_ofN {w w1 : World} (h : ∃ n, w1 = w.drewN n) : Below w.heap.size w w1 := by obtain ⟨n, rfl⟩ := h; exact pw_below_drewN (Below.refl _ _) n
theorem s15_below {w W w1 : World} {Q m1 : Nat} {q0 q1 q2 q3 : Int} {K : Option Addr} (hb : Below W.heap.size W w1) (h : W.cell? ⟨Q, 0, none⟩ = some (.int .u64 q0) ∧ W.cell? ⟨Q, 1, none⟩ = some (.int .u64 q1) ∧ W.cell? ⟨Q, 2, none⟩ = some (.int .u64 q2) ∧ W.cell? ⟨Q, 3, none⟩ = some (.int .i64 q3) ∧ W.cell? ⟨Q, 4, none⟩ = some (.slice K m1 m1) ∧ Below w.heap.size w W) : w1.cell? ⟨Q, 0, none⟩ = some (.int .u64 q0) ∧ w1.cell? ⟨Q, 1, none⟩ = some (.int .u64 q1) ∧ w1.cell? ⟨Q, 2, none⟩ = some (.int .u64 q2) ∧ w1.cell? ⟨Q, 3, none⟩ = some (.int .i64 q3) ∧ w1.cell? ⟨Q, 4, none⟩ = some (.slice K m1 m1) ∧ Below w.heap.size w w1 :=
  ⟨pw_cell_below hb h.1, pw_cell_below hb h.2.1, pw_cell_below hb h.2.2.1, pw_cell_below hb h.2.2.2.1, pw_cell_below hb h.2.2.2.2.1, below_step h.2.2.2.2.2 hb⟩
theorem s15_last {w W : World} {Q m1 : Nat} {q0 q1 q2 q3 : Int} {K : Option Addr} (h : W.cell? ⟨Q, 0, none⟩ = some (.int .u64 q0) ∧ W.cell? ⟨Q, 1, none⟩ = some (.int .u64 q1) ∧ W.cell? ⟨Q, 2, none⟩ = some (.int .u64 q2) ∧ W.cell? ⟨Q, 3, none⟩ = some (.int .i64 q3) ∧ W.cell? ⟨Q, 4, none⟩ = some (.slice K m1 m1) ∧ Below w.heap.size w W) : Below w.heap.size w W := h.2.2.2.2.2
set_option maxHeartbeats 4000000 in
set_option maxRecDepth 100000 in
theorem clockAsks_walk (r0 r1 r2 r3 : Int) (A : Option Addr) (n c : Nat) (t : Int) (i u : ByteArray) (born seen : Int) (dead : Bool) (s : ByteArray) (A1 : Option Addr) (n1 c1 : Nat) (A2 : Option Addr) (n2 c2 : Nat) (o : ByteArray) (fails last a b k d : Int) (w : World) (h0 : 0 ≤ r0 ∧ r0 < 18446744073709551616) (h1 : 0 ≤ r1 ∧ r1 < 18446744073709551616)
    (ht : 0 ≤ t ∧ t < 18446744073709551616) (ha : 0 ≤ a ∧ a < 256) (hb' : 0 ≤ b ∧ b < 256) (hk : 0 ≤ k ∧ k < 256) (hd : 0 ≤ d ∧ d < 256) :
    Calls Try.prog 15 #[.agg #[.int .u64 r0, .int .u64 r1, .int .u64 r2, .int .i64 r3, .slice A n c], .int .u64 t, .agg #[.string i, .string u, .int .u64 born, .int .u64 seen, .bool dead], .agg #[.string s, .slice A1 n1 c1, .slice A2 n2 c2, .string o, .int .i64 fails, .int .u64 last], .int .u8 a, .int .u8 b, .int .u8 k, .int .u8 d] w fun e w' => e = .returned (.bool true) ∧ Below w.heap.size w w' := by
  obtain ⟨m1, hm1⟩ : ∃ l : Nat, (10 + d % 60).toNat = l := ⟨_, rfl⟩
  have lm := mk_len d hd
  rw [hm1] at lm
  obtain ⟨q0, hq0⟩ : ∃ x, IntKind.u64.wrap (1 + IntKind.u64.wrap (a.tmod 16)) = x := ⟨_, rfl⟩
  obtain ⟨q1, hq1⟩ : ∃ x, IntKind.u64.wrap (1 + IntKind.u64.wrap (b.tmod 32)) = x := ⟨_, rfl⟩
  obtain ⟨q2, hq2⟩ : ∃ x, IntKind.u64.wrap (k.tmod 8) = x := ⟨_, rfl⟩
  have g0 : 0 ≤ q0 ∧ q0 < 18446744073709551616 := by rw [← hq0]; exact u64_rng _
  have g1 : 0 ≤ q1 ∧ q1 < 18446744073709551616 := by rw [← hq1]; exact u64_rng _
  have hk1 := print_make (P := Try.prog) 24 5 .u8 1 Try.underlying24 info5g (by decide) m1 (by omega)
  have dm : decide (0 ≤ (m1 : Int)) = true := decide_eq_true (by omega)
  by_cases hn : 100 < (n : Int)
  · have dn : decide (100 < (n : Int)) = true := decide_eq_true hn
    clear hn
    go_enter Try.func15, Try.ntmps15
    go_wp2_with (first | (go_at_call 18; ((with_reducible refine (known_any _).mono ?_); rintro e w1 ⟨rfl, hb⟩; have HB : Aside0 (Below w.heap.size w w1) := Aside0.mk (below_step (by repeat (first | exact Below.refl _ _ | apply below_alloc)) hb))))
    go_ret
    exact ⟨rfl, HB.out⟩
  · have dn : decide (100 < (n : Int)) = false := decide_eq_false hn
    clear hn
    go_enter Try.func15, Try.ntmps15
    go_upto_region 3 with (first | (go_at_call 18; ((with_reducible refine (known_any _).mono ?_); rintro e w1 ⟨rfl, hb⟩; have HB : Aside0 (Below w.heap.size w w1) := Aside0.mk (below_step (by repeat (first | exact Below.refl _ _ | apply below_alloc)) hb); have kA := Aside0.mk (blk_below (blk_alloc (blk_alloc (blk_new _ _) _) _) hb); have kB := Aside0.mk (blk_below (blk_alloc (blk_new1 _ _ _) _) hb); have kC := Aside0.mk (blk_below (blk_new2' _ _ _ _) hb); have hz := hb.size; clear hb; simp at hz; have hz1 : w.heap.size < w1.heap.size := (by omega); have hz2 : w.heap.size + 1 < w1.heap.size := (by omega); have hz3 : w.heap.size + 1 + 1 < w1.heap.size := (by omega); clear hz; obtain ⟨a0, a1, a2, a3, a4⟩ := cells5 kA.out; obtain ⟨b0, b1, b2, b3, b4⟩ := cells5 kB.out; obtain ⟨e0, e1, e2, e3, e4, e5⟩ := cells6 kC.out)))
    go_cut [17] (fun q wx => ∃ (Q : Nat) (K : Option Addr), q = .pointer (some ⟨Q, 0, none⟩) ∧ asksMid w wx (.cells #[.int .u64 r0, .int .u64 r1, .int .u64 r2, .int .i64 r3, .slice A n c] 26 (0, 0)) (.cells #[.string i, .string u, .int .u64 born, .int .u64 seen, .bool dead] 28 (0, 0)) (.cells #[.string s, .slice A1 n1 c1, .slice A2 n2 c2, .string o, .int .i64 fails, .int .u64 last] 39 (0, 0)) (.cells #[.int .u64 q0, .int .u64 q1, .int .u64 q2, .int .i64 r3, .slice K m1 m1] 26 (0, 0)) Q)
    case first =>
      go_region
      all_goals go_wp2
      all_goals go_meet
      all_goals first | exact ⟨_, _, rfl, mid_a kA.out kB.out kC.out HB.out hz3⟩ | exact ⟨_, _, rfl, mid_b kA.out kB.out kC.out HB.out hz3⟩
    case rest =>
      obtain ⟨Q, K, rfl, hm⟩ := hcut
      have cA : ∀ (t : Int) (i u : ByteArray) (born seen : Int) (dead : Bool) (s : ByteArray) (A1 : Option Addr) (n1 c1 : Nat) (A2 : Option Addr) (n2 c2 : Nat) (o : ByteArray) (fails last : Int) (w : World), Calls Try.prog 33 #[.agg #[.int .u64 r0, .int .u64 r1, .int .u64 r2, .int .i64 r3, .slice A n c], .int .u64 t, .agg #[.string i, .string u, .int .u64 born, .int .u64 seen, .bool dead], .agg #[.string s, .slice A1 n1 c1, .slice A2 n2 c2, .string o, .int .i64 fails, .int .u64 last]] w fun e w' => e = .returned (.bool true) ∧ Below w.heap.size w w' := fun t i u born seen dead s A1 n1 c1 A2 n2 c2 o fails last w => asks_any r0 r1 r2 r3 A n c t i u born seen dead s A1 n1 c1 A2 n2 c2 o fails last w h0 h1
      have cQ : ∀ (t : Int) (i u : ByteArray) (born seen : Int) (dead : Bool) (s : ByteArray) (A1 : Option Addr) (n1 c1 : Nat) (A2 : Option Addr) (n2 c2 : Nat) (o : ByteArray) (fails last : Int) (w : World), Calls Try.prog 33 #[.agg #[.int .u64 q0, .int .u64 q1, .int .u64 q2, .int .i64 r3, .slice K m1 m1], .int .u64 t, .agg #[.string i, .string u, .int .u64 born, .int .u64 seen, .bool dead], .agg #[.string s, .slice A1 n1 c1, .slice A2 n2 c2, .string o, .int .i64 fails, .int .u64 last]] w fun e w' => e = .returned (.bool true) ∧ Below w.heap.size w w' := fun t i u born seen dead s A1 n1 c1 A2 n2 c2 o fails last w => asks_any q0 q1 q2 r3 K m1 m1 t i u born seen dead s A1 n1 c1 A2 n2 c2 o fails last w g0 g1
      clear HB kA kB kC hz1 hz2 hz3 a0 a1 a2 a3 a4 b0 b1 b2 b3 b4 e0 e1 e2 e3 e4 e5
      obtain ⟨kA, kB, kC, kQ, hlt, hsz, HB⟩ := hm
      obtain ⟨a0, a1, a2, a3, a4⟩ := cells5 kA
      obtain ⟨b0, b1, b2, b3, b4⟩ := cells5 kB
      obtain ⟨e0, e1, e2, e3, e4, e5⟩ := cells6 kC
      obtain ⟨f0, f1, f2, f3, f4⟩ := cells5 kQ
      have hQ0 : w.heap.size < Q := by omega
      have hQ1 : w.heap.size + 1 < Q := by omega
      have hs0 : w.heap.size < wc.heap.size := by omega
      have hs1 : w.heap.size + 1 < wc.heap.size := by omega
      have hs2 : w.heap.size + 1 + 1 < wc.heap.size := by omega
      go_upto_region 6 with fail
      obtain ⟨x2, hx2⟩ : ∃ x, IntKind.u64.wrap (t - k % 40) = x := ⟨_, rfl⟩
      obtain ⟨x3, hx3⟩ : ∃ x, IntKind.u64.wrap (t - d % 20) = x := ⟨_, rfl⟩
      obtain ⟨v5, hv5⟩ : ∃ x, IntKind.u64.wrap (t - b % 12) = x := ⟨_, rfl⟩
      rw [hx2, hx3, hv5]
      generalize hX : wc.heap.size = X
      have kX : ((wc.alloc (.cells #[.string ⟨#[97]⟩, .string ⟨#[]⟩, .int .u64 x2, .int .u64 x3, .bool (decide (240 ≤ a))] 28 (0, 0))).alloc (.cells #[.string ⟨#[]⟩, .slice none 0 0, .slice none 0 0, .string ⟨#[]⟩, .int .i64 (a % 8), .int .u64 v5] 39 (0, 0))).heap[X]? = some (.cells #[.string ⟨#[97]⟩, .string ⟨#[]⟩, .int .u64 x2, .int .u64 x3, .bool (decide (240 ≤ a))] 28 (0, 0)) := by rw [← hX]; exact blk_alloc (blk_new _ _) _
      have kV : ((wc.alloc (.cells #[.string ⟨#[97]⟩, .string ⟨#[]⟩, .int .u64 x2, .int .u64 x3, .bool (decide (240 ≤ a))] 28 (0, 0))).alloc (.cells #[.string ⟨#[]⟩, .slice none 0 0, .slice none 0 0, .string ⟨#[]⟩, .int .i64 (a % 8), .int .u64 v5] 39 (0, 0))).heap[X + 1]? = some (.cells #[.string ⟨#[]⟩, .slice none 0 0, .slice none 0 0, .string ⟨#[]⟩, .int .i64 (a % 8), .int .u64 v5] 39 (0, 0)) := by rw [← hX]; exact blk_new1 _ _ _
      replace kA := blk_alloc (blk_alloc kA (.cells #[.string ⟨#[97]⟩, .string ⟨#[]⟩, .int .u64 x2, .int .u64 x3, .bool (decide (240 ≤ a))] 28 (0, 0))) (.cells #[.string ⟨#[]⟩, .slice none 0 0, .slice none 0 0, .string ⟨#[]⟩, .int .i64 (a % 8), .int .u64 v5] 39 (0, 0))
      replace kB := blk_alloc (blk_alloc kB (.cells #[.string ⟨#[97]⟩, .string ⟨#[]⟩, .int .u64 x2, .int .u64 x3, .bool (decide (240 ≤ a))] 28 (0, 0))) (.cells #[.string ⟨#[]⟩, .slice none 0 0, .slice none 0 0, .string ⟨#[]⟩, .int .i64 (a % 8), .int .u64 v5] 39 (0, 0))
      replace kC := blk_alloc (blk_alloc kC (.cells #[.string ⟨#[97]⟩, .string ⟨#[]⟩, .int .u64 x2, .int .u64 x3, .bool (decide (240 ≤ a))] 28 (0, 0))) (.cells #[.string ⟨#[]⟩, .slice none 0 0, .slice none 0 0, .string ⟨#[]⟩, .int .i64 (a % 8), .int .u64 v5] 39 (0, 0))
      replace kQ := blk_alloc (blk_alloc kQ (.cells #[.string ⟨#[97]⟩, .string ⟨#[]⟩, .int .u64 x2, .int .u64 x3, .bool (decide (240 ≤ a))] 28 (0, 0))) (.cells #[.string ⟨#[]⟩, .slice none 0 0, .slice none 0 0, .string ⟨#[]⟩, .int .i64 (a % 8), .int .u64 v5] 39 (0, 0))
      replace HB := below_alloc (below_alloc HB (.cells #[.string ⟨#[97]⟩, .string ⟨#[]⟩, .int .u64 x2, .int .u64 x3, .bool (decide (240 ≤ a))] 28 (0, 0))) (.cells #[.string ⟨#[]⟩, .slice none 0 0, .slice none 0 0, .string ⟨#[]⟩, .int .i64 (a % 8), .int .u64 v5] 39 (0, 0))
      clear a0 a1 a2 a3 a4 b0 b1 b2 b3 b4 e0 e1 e2 e3 e4 e5 f0 f1 f2 f3 f4 hs0 hs1 hs2 hsz hx2 hx3 hv5
      obtain ⟨W, hW⟩ : ∃ W, W = ((wc.alloc (.cells #[.string ⟨#[97]⟩, .string ⟨#[]⟩, .int .u64 x2, .int .u64 x3, .bool (decide (240 ≤ a))] 28 (0, 0))).alloc (.cells #[.string ⟨#[]⟩, .slice none 0 0, .slice none 0 0, .string ⟨#[]⟩, .int .i64 (a % 8), .int .u64 v5] 39 (0, 0))) := ⟨_, rfl⟩
      rw [← hW] at kA kB kC kQ kX kV HB ⊢
      clear hW
      replace kA := Aside0.mk kA
      replace kB := Aside0.mk kB
      replace kC := Aside0.mk kC
      replace kQ := Aside0.mk kQ
      replace kX := Aside0.mk kX
      replace kV := Aside0.mk kV
      replace HB := Aside0.mk HB
      clear hX
      obtain ⟨a0, a1, a2, a3, a4⟩ := cells5 kA.out
      obtain ⟨b0, b1, b2, b3, b4⟩ := cells5 kB.out
      obtain ⟨e0, e1, e2, e3, e4, e5⟩ := cells6 kC.out
      obtain ⟨f0, f1, f2, f3, f4⟩ := cells5 kQ.out
      obtain ⟨x0, x1, x2', x3', x4⟩ := cells5 kX.out
      obtain ⟨v0, v1, v2, v3, v4, v5'⟩ := cells6 kV.out
      go_upto_region 7 with (go_at_call 33; ((with_reducible first | refine (cA _ _ _ _ _ _ _ _ _ _ _ _ _ _ _ _ _).mono ?_ | refine (cQ _ _ _ _ _ _ _ _ _ _ _ _ _ _ _ _ _).mono ?_); rintro e w2 ⟨rfl, hb⟩; have kA := Aside0.mk (blk_below kA.out hb); have kB := Aside0.mk (blk_below kB.out hb); have kC := Aside0.mk (blk_below kC.out hb); have kQ := Aside0.mk (blk_below kQ.out hb); have kX := Aside0.mk (blk_below kX.out hb); have kV := Aside0.mk (blk_below kV.out hb); have HB := Aside0.mk (below_step HB.out hb); clear hb a0 a1 a2 a3 a4 b0 b1 b2 b3 b4 e0 e1 e2 e3 e4 e5 f0 f1 f2 f3 f4 x0 x1 x2' x3' x4 v0 v1 v2 v3 v4 v5'; obtain ⟨a0, a1, a2, a3, a4⟩ := cells5 kA.out; obtain ⟨b0, b1, b2, b3, b4⟩ := cells5 kB.out; obtain ⟨e0, e1, e2, e3, e4, e5⟩ := cells6 kC.out; obtain ⟨f0, f1, f2, f3, f4⟩ := cells5 kQ.out; obtain ⟨x0, x1, x2', x3', x4⟩ := cells5 kX.out; obtain ⟨v0, v1, v2, v3, v4, v5'⟩ := cells6 kV.out))
      have fr := blk_frozen kQ.out 3
      go_upto_region 8 with fail
      obtain ⟨q3, hq3⟩ : ∃ x, k * 5 = x := ⟨_, rfl⟩
      rw [hq3]
      have kQ3 : (w2.setCell ⟨Q, 3, none⟩ (.int .i64 q3)).heap[Q]? = some (.cells #[.int .u64 q0, .int .u64 q1, .int .u64 q2, .int .i64 q3, .slice K m1 m1] 26 (0, 0)) := blk_set kQ.out 3 _
      have HB3 : Below w.heap.size w (w2.setCell ⟨Q, 3, none⟩ (.int .i64 q3)) := below_set HB.out (by omega)
      clear HB kA kB kC kQ kX kV a0 a1 a2 a3 a4 b0 b1 b2 b3 b4 e0 e1 e2 e3 e4 e5 f0 f1 f2 f3 f4 x0 x1 x2' x3' x4 v0 v1 v2 v3 v4 v5' fr hq3 cA cQ hk1 lm hm1 g0 g1 dm dn hQ0 hQ1 hlt
      obtain ⟨W, hW⟩ : ∃ W, W = w2.setCell ⟨Q, 3, none⟩ (.int .i64 q3) := ⟨_, rfl⟩
      rw [← hW] at kQ3 HB3 ⊢
      clear hW
      obtain ⟨f0, f1, f2, f3, f4⟩ := cells5 kQ3
      clear kQ3
      have s5 : addV 18446744073709551615 1 = 18446744073709551615 := by decide
      have ct : ∀ W, Calls Try.prog 35 #[.int .u64 t] W fun e w' => e = .returned (.int .u64 (addV t 1)) ∧ ∃ n, w' = W.drewN n := fun W => rtick_any t ht W
      clear ht h0 h1 ha hb' hk hd
      go_region_held3 (fun w' => w'.cell? ⟨Q, 0, none⟩ = some (.int .u64 q0) ∧ w'.cell? ⟨Q, 1, none⟩ = some (.int .u64 q1) ∧ w'.cell? ⟨Q, 2, none⟩ = some (.int .u64 q2) ∧ w'.cell? ⟨Q, 3, none⟩ = some (.int .i64 q3) ∧ w'.cell? ⟨Q, 4, none⟩ = some (.slice K m1 m1) ∧ Below w.heap.size w w') (first | assumption | exact s15_below (by assumption) (by assumption) | (refine ⟨?_, ?_, ?_, ?_, ?_, ?_⟩ <;> first | assumption | (exact pw_below_drewN (by assumption) 1)))
        (first | (go_at_call 30; ((with_reducible refine (right_any _ _ _ _ _ _ _ _).mono ?_); rintro e w1 ⟨rfl, hb⟩)) | (go_at_call 34; ((with_reducible refine (rright_any _ _ _ _ _ _ _ _).mono ?_); rintro e w1 ⟨rfl, hb⟩)) | (go_at_call 20; ((with_reducible refine (tick_any _ _).mono ?_); rintro e w1 ⟨rfl, hb0⟩; have hb := below_ofN hb0; clear hb0)) | (go_at_call 35; ((with_reducible refine (ct _).mono ?_); rintro e w1 ⟨rfl, hb0⟩; have hb := below_ofN hb0; clear hb0)))
      have HBf : Below w.heap.size w w1 := s15_last (by assumption)
      clear HB3 f0 f1 f2 f3 f4
      go_wp2
      go_ret
      exact ⟨rfl, HBf⟩
theorem clockAsks_row (r0 r1 r2 r3 : Int) (A : Option Addr) (n c : Nat) (t : Int) (i u : ByteArray) (born seen : Int) (dead : Bool) (s : ByteArray) (A1 : Option Addr) (n1 c1 : Nat) (A2 : Option Addr) (n2 c2 : Nat) (o : ByteArray) (fails last a b k d : Int) (w : World) (h0 : (Lit.int .u64 r0).wf = true) (h1 : (Lit.int .u64 r1).wf = true) (ht : (Lit.int .u64 t).wf = true)
    (ha : (Lit.int .u8 a).wf = true) (hb : (Lit.int .u8 b).wf = true) (hk : (Lit.int .u8 k).wf = true) (hd : (Lit.int .u8 d).wf = true) :
    Calls Try.prog 15 #[.agg #[.int .u64 r0, .int .u64 r1, .int .u64 r2, .int .i64 r3, .slice A n c], .int .u64 t, .agg #[.string i, .string u, .int .u64 born, .int .u64 seen, .bool dead], .agg #[.string s, .slice A1 n1 c1, .slice A2 n2 c2, .string o, .int .i64 fails, .int .u64 last], .int .u8 a, .int .u8 b, .int .u8 k, .int .u8 d] w fun e w' => e = .returned (.bool true) ∧ Below w.heap.size w w' :=
  clockAsks_walk r0 r1 r2 r3 A n c t i u born seen dead s A1 n1 c1 A2 n2 c2 o fails last a b k d w (wf_u64 _ h0) (wf_u64 _ h1) (wf_u64 _ ht) (wf_u8 _ ha) (wf_u8 _ hb) (wf_u8 _ hk) (wf_u8 _ hd)

end Go.Proofs.Ytclmjhpbhmbdaaa.Hand
