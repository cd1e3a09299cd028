/- asks (of ClockAsks) returns true, by hand. -/
import Derived.Test.YtclmjhpbhmbdaaaProg
import Derived.Below
import Derived.Deep.Draws
import Derived.Deep.AppendLies
import Derived.Maps.AppendAt
import Derived.OwnWalk
import Derived.Laws.BytesArg
import Derived.Laws.MakeOwn
import Derived.Laws.OwnMore
import Derived.Deep.OwnRows
import Derived.Tactics
import Derived.Lib.ConvBytes
import Derived.Laws.Slices
import Derived.WalkKit
import Derived.KernelRfl
import Derived.RowKit3
import Derived.Deep.LoopGhost
import Derived.Deep.QuietTactic
import Derived.BigQuiet
import Derived.WideLaws
import Derived.Deep.DeepCutAuto
import Derived.Deep.CutBlock
import Derived.Deep.RegionHeld3
import Derived.Laws.Rows
import Derived.Lib.AppendStr
import Derived.ArgAppend
import Derived.Laws.IdiomCopy
import Derived.OrdersHeld
import Derived.Laws.BitsLemmas
import Derived.RowKit
import Derived.Test.YtclmjhpbhmbdaaaWWords
import Derived.Test.YtclmjhpbhmbdaaaWLast
import Derived.Test.YtclmjhpbhmbdaaaWTab
import Derived.Test.YtclmjhpbhmbdaaaWFour
import Derived.Test.YtclmjhpbhmbdaaaWQPut
import Derived.Test.YtclmjhpbhmbdaaaWApart
import Derived.Test.YtclmjhpbhmbdaaaWArr
import Derived.Test.YtclmjhpbhmbdaaaWZeros
import Derived.Test.YtclmjhpbhmbdaaaWFoot
import Derived.Test.YtclmjhpbhmbdaaaWKept
import Derived.Test.YtclmjhpbhmbdaaaWShare
import Derived.Test.YtclmjhpbhmbdaaaWN
import Derived.Test.YtclmjhpbhmbdaaaWFootNe
import Derived.Test.YtclmjhpbhmbdaaaWAt
import Derived.Test.YtclmjhpbhmbdaaaWEqStruct
import Derived.Test.YtclmjhpbhmbdaaaWRepsOne
import Derived.Test.YtclmjhpbhmbdaaaWInv
import Derived.Test.YtclmjhpbhmbdaaaWInvWords
import Derived.Test.YtclmjhpbhmbdaaaWGuard
import Derived.Test.YtclmjhpbhmbdaaaWNEv
import Derived.Test.YtclmjhpbhmbdaaaWMore
import Derived.Outline
import Derived.Test.YtclmjhpbhmbdaaaHClk
import Derived.Test.YtclmjhpbhmbdaaaHGet
import Derived.Test.YtclmjhpbhmbdaaaHLFact
import Derived.Test.YtclmjhpbhmbdaaaHLRight
import Derived.Test.YtclmjhpbhmbdaaaHLRef
namespace Go.Proofs.Ytclmjhpbhmbdaaa.Hand
open Go.RowKit Go.Proofs.YtclmjhpbhmbdaaaW.PrintWords Go.Proofs.YtclmjhpbhmbdaaaW.PrintLast Go.Proofs.YtclmjhpbhmbdaaaW.PrintMore
attribute [local go_sem] max2_int min2_int max_two min_two max_three min_three max_four min_four
set_option linter.unusedVariables false
set_option linter.unusedSimpArgs false


theorem blk_new2' (w : World) (o o2 o3 : Obj) : (((w.alloc o).alloc o2).alloc o3).heap[w.heap.size + 1 + 1]? = some o3 := by simpa using blk_new ((w.alloc o).alloc o2) o3
theorem s33_below {w W w1 : World} {r0 r1 r2 r3 : Int} {A : Option Addr} {n c : Nat} {i u : ByteArray} {born seen : Int} {dead : Bool} {s : ByteArray} {A1 : Option Addr} {n1 c1 : Nat} {A2 : Option Addr} {n2 c2 : Nat} {o : ByteArray} {fails last : Int} (hb : Below W.heap.size W w1) (h : W.cell? ⟨w.heap.size, 0, none⟩ = some (.int .u64 r0) ∧ W.cell? ⟨w.heap.size, 1, none⟩ = some (.int .u64 r1) ∧ W.cell? ⟨w.heap.size, 2, none⟩ = some (.int .u64 r2) ∧ W.cell? ⟨w.heap.size, 3, none⟩ = some (.int .i64 r3) ∧ W.cell? ⟨w.heap.size, 4, none⟩ = some (.slice A n c) ∧ W.cell? ⟨w.heap.size + 1, 0, none⟩ = some (.string i) ∧ W.cell? ⟨w.heap.size + 1, 1, none⟩ = some (.string u) ∧ W.cell? ⟨w.heap.size + 1, 2, none⟩ = some (.int .u64 born) ∧ W.cell? ⟨w.heap.size + 1, 3, none⟩ = some (.int .u64 seen) ∧ W.cell? ⟨w.heap.size + 1, 4, none⟩ = some (.bool dead) ∧ W.cell? ⟨w.heap.size + 1 + 1, 0, none⟩ = some (.string s) ∧ W.cell? ⟨w.heap.size + 1 + 1, 1, none⟩ = some (.slice A1 n1 c1) ∧ W.cell? ⟨w.heap.size + 1 + 1, 2, none⟩ = some (.slice A2 n2 c2) ∧ W.cell? ⟨w.heap.size + 1 + 1, 3, none⟩ = some (.string o) ∧ W.cell? ⟨w.heap.size + 1 + 1, 4, none⟩ = some (.int .i64 fails) ∧ W.cell? ⟨w.heap.size + 1 + 1, 5, none⟩ = some (.int .u64 last) ∧ Below w.heap.size w W) : w1.cell? ⟨w.heap.size, 0, none⟩ = some (.int .u64 r0) ∧ w1.cell? ⟨w.heap.size, 1, none⟩ = some (.int .u64 r1) ∧ w1.cell? ⟨w.heap.size, 2, none⟩ = some (.int .u64 r2) ∧ w1.cell? ⟨w.heap.size, 3, none⟩ = some (.int .i64 r3) ∧ w1.cell? ⟨w.heap.size, 4, none⟩ = some (.slice A n c) ∧ w1.cell? ⟨w.heap.size + 1, 0, none⟩ = some (.string i) ∧ w1.cell? ⟨w.heap.size + 1, 1, none⟩ = some (.string u) ∧ w1.cell? ⟨w.heap.size + 1, 2, none⟩ = some (.int .u64 born) ∧ w1.cell? ⟨w.heap.size + 1, 3, none⟩ = some (.int .u64 seen) ∧ w1.cell? ⟨w.heap.size + 1, 4, none⟩ = some (.bool dead) ∧ w1.cell? ⟨w.heap.size + 1 + 1, 0, none⟩ = some (.string s) ∧ w1.cell? ⟨w.heap.size + 1 + 1, 1, none⟩ = some (.slice A1 n1 c1) ∧ w1.cell? ⟨w.heap.size + 1 + 1, 2, none⟩ = some (.slice A2 n2 c2) ∧ w1.cell? ⟨w.heap.size + 1 + 1, 3, none⟩ = some (.string o) ∧ w1.cell? ⟨w.heap.size + 1 + 1, 4, none⟩ = some (.int .i64 fails) ∧ w1.cell? ⟨w.heap.size + 1 + 1, 5, none⟩ = some (.int .u64 last) ∧ Below w.heap.size w w1 := by
  obtain ⟨x0, x1, x2, x3, x4, x5, x6, x7, x8, x9, x10, x11, x12, x13, x14, x15, x16⟩ := h
  exact ⟨pw_cell_below hb x0, pw_cell_below hb x1, pw_cell_below hb x2, pw_cell_below hb x3, pw_cell_below hb x4, pw_cell_below hb x5, pw_cell_below hb x6, pw_cell_below hb x7, pw_cell_below hb x8, pw_cell_below hb x9, pw_cell_below hb x10, pw_cell_below hb x11, pw_cell_below hb x12, pw_cell_below hb x13, pw_cell_below hb x14, pw_cell_below hb x15, below_step x16 hb⟩
theorem s33_last {w W : World} {r0 r1 r2 r3 : Int} {A : Option Addr} {n c : Nat} {i u : ByteArray} {born seen : Int} {dead : Bool} {s : ByteArray} {A1 : Option Addr} {n1 c1 : Nat} {A2 : Option Addr} {n2 c2 : Nat} {o : ByteArray} {fails last : Int} (h : W.cell? ⟨w.heap.size, 0, none⟩ = some (.int .u64 r0) ∧ W.cell? ⟨w.heap.size, 1, none⟩ = some (.int .u64 r1) ∧ W.cell? ⟨w.heap.size, 2, none⟩ = some (.int .u64 r2) ∧ W.cell? ⟨w.heap.size, 3, none⟩ = some (.int .i64 r3) ∧ W.cell? ⟨w.heap.size, 4, none⟩ = some (.slice A n c) ∧ W.cell? ⟨w.heap.size + 1, 0, none⟩ = some (.string i) ∧ W.cell? ⟨w.heap.size + 1, 1, none⟩ = some (.string u) ∧ W.cell? ⟨w.heap.size + 1, 2, none⟩ = some (.int .u64 born) ∧ W.cell? ⟨w.heap.size + 1, 3, none⟩ = some (.int .u64 seen) ∧ W.cell? ⟨w.heap.size + 1, 4, none⟩ = some (.bool dead) ∧ W.cell? ⟨w.heap.size + 1 + 1, 0, none⟩ = some (.string s) ∧ W.cell? ⟨w.heap.size + 1 + 1, 1, none⟩ = some (.slice A1 n1 c1) ∧ W.cell? ⟨w.heap.size + 1 + 1, 2, none⟩ = some (.slice A2 n2 c2) ∧ W.cell? ⟨w.heap.size + 1 + 1, 3, none⟩ = some (.string o) ∧ W.cell? ⟨w.heap.size + 1 + 1, 4, none⟩ = some (.int .i64 fails) ∧ W.cell? ⟨w.heap.size + 1 + 1, 5, none⟩ = some (.int .u64 last) ∧ Below w.heap.size w W) : Below w.heap.size w W := by
  obtain ⟨_, _, _, _, _, _, _, _, _, _, _, _, _, _, _, _, x⟩ := h
  exact x
set_option maxHeartbeats 4000000 in
set_option maxRecDepth 100000 in
theorem asks_any (r0 r1 r2 r3 : Int) (A : Option Addr) (n c : Nat) (t : Int) (i u : ByteArray) (born seen : Int) (dead : Bool) (s : ByteArray) (A1 : Option Addr) (n1 c1 : Nat) (A2 : Option Addr) (n2 c2 : Nat) (o : ByteArray) (fails last : Int) (w : World) (h0 : 0 ≤ r0 ∧ r0 < 18446744073709551616) (h1 : 0 ≤ r1 ∧ r1 < 18446744073709551616) :
    Calls Try.prog 33 #[.agg #[.int .u64 r0, .int .u64 r1, .int .u64 r2, .int .i64 r3, .slice A n c], .int .u64 t, .agg #[.string i, .string u, .int .u64 born, .int .u64 seen, .bool dead], .agg #[.string s, .slice A1 n1 c1, .slice A2 n2 c2, .string o, .int .i64 fails, .int .u64 last]] w fun e w' => e = .returned (.bool true) ∧ Below w.heap.size w w' := by
  have cl : ∀ W, Calls Try.prog 38 #[.agg #[.int .u64 r0, .int .u64 r1, .int .u64 r2, .int .i64 r3, .slice A n c], .int .u64 t, .agg #[.string i, .string u, .int .u64 born, .int .u64 seen, .bool dead]] W fun e w' => e = .returned (.int .u64 (leftV r0 r1 t born seen dead)) ∧ Below W.heap.size W w' := fun W => rleft_any r0 r1 r2 r3 A n c t i u born seen dead W h0 h1
  clear h0 h1
  go_enter Try.func33, Try.ntmps33
  go_wp2
  obtain ⟨W, hW⟩ : ∃ W, W = ((w.alloc (.cells #[.int .u64 r0, .int .u64 r1, .int .u64 r2, .int .i64 r3, .slice A n c] 26)).alloc (.cells #[.string i, .string u, .int .u64 born, .int .u64 seen, .bool dead] 28)).alloc (.cells #[.string s, .slice A1 n1 c1, .slice A2 n2 c2, .string o, .int .i64 fails, .int .u64 last] 39) := ⟨_, rfl⟩
  rw [← hW]
  have kA : W.heap[w.heap.size]? = some (.cells #[.int .u64 r0, .int .u64 r1, .int .u64 r2, .int .i64 r3, .slice A n c] 26 (0, 0)) := by rw [hW]; exact blk_alloc (blk_alloc (blk_new _ _) _) _
  have kB : W.heap[w.heap.size + 1]? = some (.cells #[.string i, .string u, .int .u64 born, .int .u64 seen, .bool dead] 28 (0, 0)) := by rw [hW]; exact blk_alloc (blk_new1 _ _ _) _
  have kC : W.heap[w.heap.size + 1 + 1]? = some (.cells #[.string s, .slice A1 n1 c1, .slice A2 n2 c2, .string o, .int .i64 fails, .int .u64 last] 39 (0, 0)) := by rw [hW]; exact blk_new2' _ _ _ _
  have HB : Below w.heap.size w W := by rw [hW]; exact below_alloc (below_alloc (below_alloc (Below.refl _ _) _) _) _
  clear hW
  obtain ⟨a0, a1, a2, a3, a4⟩ := cells5 kA
  obtain ⟨b0, b1, b2, b3, b4⟩ := cells5 kB
  obtain ⟨e0, e1, e2, e3, e4, e5⟩ := cells6 kC
  clear kA kB kC
  go_region_held3 (fun w' => w'.cell? ⟨w.heap.size, 0, none⟩ = some (.int .u64 r0) ∧ w'.cell? ⟨w.heap.size, 1, none⟩ = some (.int .u64 r1) ∧ w'.cell? ⟨w.heap.size, 2, none⟩ = some (.int .u64 r2) ∧ w'.cell? ⟨w.heap.size, 3, none⟩ = some (.int .i64 r3) ∧ w'.cell? ⟨w.heap.size, 4, none⟩ = some (.slice A n c) ∧ w'.cell? ⟨w.heap.size + 1, 0, none⟩ = some (.string i) ∧ w'.cell? ⟨w.heap.size + 1, 1, none⟩ = some (.string u) ∧ w'.cell? ⟨w.heap.size + 1, 2, none⟩ = some (.int .u64 born) ∧ w'.cell? ⟨w.heap.size + 1, 3, none⟩ = some (.int .u64 seen) ∧ w'.cell? ⟨w.heap.size + 1, 4, none⟩ = some (.bool dead) ∧ w'.cell? ⟨w.heap.size + 1 + 1, 0, none⟩ = some (.string s) ∧ w'.cell? ⟨w.heap.size + 1 + 1, 1, none⟩ = some (.slice A1 n1 c1) ∧ w'.cell? ⟨w.heap.size + 1 + 1, 2, none⟩ = some (.slice A2 n2 c2) ∧ w'.cell? ⟨w.heap.size + 1 + 1, 3, none⟩ = some (.string o) ∧ w'.cell? ⟨w.heap.size + 1 + 1, 4, none⟩ = some (.int .i64 fails) ∧ w'.cell? ⟨w.heap.size + 1 + 1, 5, none⟩ = some (.int .u64 last) ∧ Below w.heap.size w w') (first | assumption | exact s33_below (by assumption) (by assumption) | (refine ⟨?_, ?_, ?_, ?_, ?_, ?_, ?_, ?_, ?_, ?_, ?_, ?_, ?_, ?_, ?_, ?_, ?_⟩ <;> first | assumption | (exact pw_below_drewN (by assumption) 1)))
    (first | (go_at_call 16; ((with_reducible refine (liveZ_any _ _ _ _ _ _ _ _ _ _ _ _ _ _).mono ?_); rintro e w1 ⟨rfl, hb⟩)) | (go_at_call 36; ((with_reducible refine (rlive_any _ _ _ _ _ _ _ _ _ _ _ _ _ _).mono ?_); rintro e w1 ⟨rfl, hb⟩)) | (go_at_call 19; ((with_reducible refine (why_any _ _ _ _ _ _ _ _ _ _ _ _ _ _).mono ?_); rintro e w1 ⟨rfl, hb⟩)) | (go_at_call 37; ((with_reducible refine (rwhy_any _ _ _ _ _ _ _ _ _ _ _ _ _ _).mono ?_); rintro e w1 ⟨rfl, hb⟩)) | (go_at_call 17; ((with_reducible refine (left_any _ _ _ _ _ _ _ _ _ _ _ _ _ _).mono ?_); rintro e w1 ⟨rfl, hb⟩)) | (go_at_call 38; ((with_reducible refine (cl _).mono ?_); rintro e w1 ⟨rfl, hb⟩)) | (go_at_call 21; ((with_reducible refine (shut_any _ _ _ _ _ _ _ _ _ _ _ _ _ _ _ _ _ _ _).mono ?_); rintro e w1 ⟨rfl, hb⟩)) | (go_at_call 39; ((with_reducible refine (rshut_any _ _ _ _ _ _ _ _ _ _ _ _ _ _ _ _ _ _ _).mono ?_); rintro e w1 ⟨rfl, hb⟩)) | (go_at_call 30; ((with_reducible refine (right_any _ _ _ _ _ _ _ _).mono ?_); rintro e w1 ⟨rfl, hb⟩)) | (go_at_call 34; ((with_reducible refine (rright_any _ _ _ _ _ _ _ _).mono ?_); rintro e w1 ⟨rfl, hb⟩)))
  have HBf : Below w.heap.size w w1 := s33_last (by assumption)
  clear HB a0 a1 a2 a3 a4 b0 b1 b2 b3 b4 e0 e1 e2 e3 e4 e5
  go_wp2
  go_ret
  exact ⟨rfl, HBf⟩

end Go.Proofs.Ytclmjhpbhmbdaaa.Hand
