/- clock.Why by hand: what ended a session. -/
import Derived.Test.YtclmjhpbhmbdaaaProg
import Derived.Below
import Derived.Deep.Draws
import Derived.Deep.AppendLies
import Derived.Maps.AppendAt
import Derived.OwnWalk
import Derived.Laws.BytesArg
import Derived.Laws.MakeOwn
import Derived.Laws.OwnMore
import Derived.Deep.OwnRows
import Derived.Tactics
import Derived.Lib.ConvBytes
import Derived.Laws.Slices
import Derived.WalkKit
import Derived.KernelRfl
import Derived.RowKit3
import Derived.Deep.LoopGhost
import Derived.Deep.QuietTactic
import Derived.BigQuiet
import Derived.WideLaws
import Derived.Deep.DeepCutAuto
import Derived.Deep.CutBlock
import Derived.Deep.RegionHeld3
import Derived.Laws.Rows
import Derived.Lib.AppendStr
import Derived.ArgAppend
import Derived.Laws.IdiomCopy
import Derived.OrdersHeld
import Derived.Laws.BitsLemmas
import Derived.RowKit
import Derived.Test.YtclmjhpbhmbdaaaWWords
import Derived.Test.YtclmjhpbhmbdaaaWLast
import Derived.Test.YtclmjhpbhmbdaaaWTab
import Derived.Test.YtclmjhpbhmbdaaaWFour
import Derived.Test.YtclmjhpbhmbdaaaWQPut
import Derived.Test.YtclmjhpbhmbdaaaWApart
import Derived.Test.YtclmjhpbhmbdaaaWArr
import Derived.Test.YtclmjhpbhmbdaaaWZeros
import Derived.Test.YtclmjhpbhmbdaaaWFoot
import Derived.Test.YtclmjhpbhmbdaaaWKept
import Derived.Test.YtclmjhpbhmbdaaaWShare
import Derived.Test.YtclmjhpbhmbdaaaWN
import Derived.Test.YtclmjhpbhmbdaaaWFootNe
import Derived.Test.YtclmjhpbhmbdaaaWAt
import Derived.Test.YtclmjhpbhmbdaaaWEqStruct
import Derived.Test.YtclmjhpbhmbdaaaWRepsOne
import Derived.Test.YtclmjhpbhmbdaaaWInv
import Derived.Test.YtclmjhpbhmbdaaaWInvWords
import Derived.Test.YtclmjhpbhmbdaaaWGuard
import Derived.Test.YtclmjhpbhmbdaaaWNEv
import Derived.Test.YtclmjhpbhmbdaaaWMore
import Derived.Outline
import Derived.LoopN
namespace Go.Proofs.Ytclmjhpbhmbdaaa.Hand
open Go.RowKit Go.Proofs.YtclmjhpbhmbdaaaW.PrintWords Go.Proofs.YtclmjhpbhmbdaaaW.PrintLast Go.Proofs.YtclmjhpbhmbdaaaW.PrintMore
attribute [local go_sem] max2_int min2_int max_two min_two max_three min_three max_four min_four

/-- is more than 'most' between? -/
def pastB (now thn most : Int) : Bool := decide (now > thn) && decide (IntKind.u64.wrap (now - thn) > most)
theorem past_any (a0 a1 a2 : Int) (w : World) : Calls Try.prog 28 #[.int .u64 a0, .int .u64 a1, .int .u64 a2] w fun e w' => e = .returned (.bool (pastB a0 a1 a2)) ∧ ∃ n, w' = w.drewN n := by
  unfold pastB
  by_cases h : a0 > a1
  · have d1 : decide (a1 < a0) = true := decide_eq_true h
    rw [decide_eq_true h, Bool.true_and]
    go_enter Try.func28, Try.ntmps28
    go_wp2
    go_ret
    exact ⟨by first | rfl | (simp [*]; done), ⟨0, rfl⟩⟩
  · have d1 : decide (a1 < a0) = false := decide_eq_false h
    rw [decide_eq_false h, Bool.false_and]
    go_enter Try.func28, Try.ntmps28
    go_wp2
    go_ret
    exact ⟨by first | rfl | (simp [*]; done), ⟨0, rfl⟩⟩
/-- a new block, out of any operation that makes one -/
theorem alloc_step {P : Program} {ops : Array Oper} {Q : Exit → Act → World → Prop} {oi : Oper} {N : Option Tmp} {a : Act} {w : World} {K : Act → World → Prop} {cs : Array Value} {t : TypeId} (hN : oi.dst = N) (hw : Region.wanted oi (yielded ops a.tmps) = true)
    (hrun : (execOp a.eval oi).run P w = .ok (.value (.pointer (some ⟨w.heap.size, 0, none⟩))) (w.alloc (.cells cs t (0, 0))))
    (h : ∀ g, g = w.heap.size → ∀ w1, w1.heap[g]? = some (.cells cs t (0, 0)) → Below w.heap.size w w1 → K (a.put N (.pointer (some ⟨g, 0, none⟩))) w1) :
    if Region.wanted oi (yielded ops a.tmps) = true then Oper.wp P oi a w K Q else K (a.put N undef) w :=
  value_ hw hN hrun (h _ rfl _ (blk_new w _) (below_alloc (Below.refl _ _) _))
def whyV (d : Bool) (p q : Bool) : Int := if d = true then 1 else if p = true then 2 else if q = true then 3 else 0
def clock_Why.f (a0_0 a0_1 _ _ : Int) (_ : List Int) (a1 : Int) (_ _ : ByteArray) (a2_2 a2_3 : Int) (a2_4 : Bool) : Option Int :=
  some (whyV a2_4 (pastB a1 a2_2 a0_1) (pastB a1 a2_3 a0_0))
set_option linter.unusedVariables false
set_option linter.unusedSimpArgs false
set_option maxHeartbeats 800000 in
set_option maxRecDepth 100000 in
theorem why_any (a0_0 : Int) (a0_1 : Int) (a0_2 : Int) (a0_3 : Int) (A0_4 : Option Addr) (n0_4 c0_4 : Nat) (a1 : Int) (a2_0 : ByteArray) (a2_1 : ByteArray) (a2_2 : Int) (a2_3 : Int) (a2_4 : Bool) (w : World) :
    Calls Try.prog 19 #[.agg #[.int .u64 a0_0, .int .u64 a0_1, .int .u64 a0_2, .int .i64 a0_3, .slice A0_4 n0_4 c0_4], .int .u64 a1, .agg #[.string a2_0, .string a2_1, .int .u64 a2_2, .int .u64 a2_3, .bool a2_4]] w fun e w' => e = .returned (.int .i64 (whyV a2_4 (pastB a1 a2_2 a0_1) (pastB a1 a2_3 a0_0))) ∧ Below w.heap.size w w' := by
  go_enter Try.func19, Try.ntmps19
  go_wp2
  obtain ⟨g1, hg1⟩ : ∃ g : Nat, g = w.heap.size := ⟨_, rfl⟩
  obtain ⟨g2, hg2⟩ : ∃ g : Nat, g = w.heap.size + 1 := ⟨_, rfl⟩
  have hB0 : Below w.heap.size w ((w.alloc (Obj.cells #[Value.int IntKind.u64 a0_0, Value.int IntKind.u64 a0_1, Value.int IntKind.u64 a0_2, Value.int IntKind.i64 a0_3, Value.slice A0_4 n0_4 c0_4] 26)).alloc (Obj.cells #[Value.string a2_0, Value.string a2_1, Value.int IntKind.u64 a2_2, Value.int IntKind.u64 a2_3, Value.bool a2_4] 28)) := ((Below.refl _ _).alloc (Nat.le_refl _) _).alloc (by simp) _
  have h1 : ((w.alloc (Obj.cells #[Value.int IntKind.u64 a0_0, Value.int IntKind.u64 a0_1, Value.int IntKind.u64 a0_2, Value.int IntKind.i64 a0_3, Value.slice A0_4 n0_4 c0_4] 26)).alloc (Obj.cells #[Value.string a2_0, Value.string a2_1, Value.int IntKind.u64 a2_2, Value.int IntKind.u64 a2_3, Value.bool a2_4] 28)).heap[g1]? = some (Obj.cells #[Value.int IntKind.u64 a0_0, Value.int IntKind.u64 a0_1, Value.int IntKind.u64 a0_2, Value.int IntKind.i64 a0_3, Value.slice A0_4 n0_4 c0_4] 26) := by rw [hg1]; exact blk_alloc (blk_new _ _) _
  have h2 : ((w.alloc (Obj.cells #[Value.int IntKind.u64 a0_0, Value.int IntKind.u64 a0_1, Value.int IntKind.u64 a0_2, Value.int IntKind.i64 a0_3, Value.slice A0_4 n0_4 c0_4] 26)).alloc (Obj.cells #[Value.string a2_0, Value.string a2_1, Value.int IntKind.u64 a2_2, Value.int IntKind.u64 a2_3, Value.bool a2_4] 28)).heap[g2]? = some (Obj.cells #[Value.string a2_0, Value.string a2_1, Value.int IntKind.u64 a2_2, Value.int IntKind.u64 a2_3, Value.bool a2_4] 28) := by
    have := blk_new (w.alloc (Obj.cells #[Value.int IntKind.u64 a0_0, Value.int IntKind.u64 a0_1, Value.int IntKind.u64 a0_2, Value.int IntKind.i64 a0_3, Value.slice A0_4 n0_4 c0_4] 26)) (Obj.cells #[Value.string a2_0, Value.string a2_1, Value.int IntKind.u64 a2_2, Value.int IntKind.u64 a2_3, Value.bool a2_4] 28)
    rw [hg2]; simpa using this
  rw [← hg2, ← hg1]
  generalize ((w.alloc (Obj.cells #[Value.int IntKind.u64 a0_0, Value.int IntKind.u64 a0_1, Value.int IntKind.u64 a0_2, Value.int IntKind.i64 a0_3, Value.slice A0_4 n0_4 c0_4] 26)).alloc (Obj.cells #[Value.string a2_0, Value.string a2_1, Value.int IntKind.u64 a2_2, Value.int IntKind.u64 a2_3, Value.bool a2_4] 28)) = W at *
  clear hg1 hg2
  have f1 := (blk_cell h1 0).trans rfl
  have f2 := (blk_cell h1 1).trans rfl
  have f3 := (blk_cell h2 2).trans rfl
  have f4 := (blk_cell h2 3).trans rfl
  have f5 := (blk_cell h2 4).trans rfl
  clear h1 h2
  have HB := Aside0.mk hB0
  clear hB0
  refine start_ (n := 20) (S := fun w' => w'.cell? ⟨g1, 0, none⟩ = some (.int .u64 a0_0) ∧ w'.cell? ⟨g1, 1, none⟩ = some (.int .u64 a0_1) ∧ w'.cell? ⟨g2, 2, none⟩ = some (.int .u64 a2_2) ∧ w'.cell? ⟨g2, 3, none⟩ = some (.int .u64 a2_3) ∧ w'.cell? ⟨g2, 4, none⟩ = some (.bool a2_4) ∧ Below w.heap.size w w') (ds := [19]) #[false, false, false, false, false, false, false, false, false, false, false, false, false, false, false, false, false, false, false, false] (by kernel_rfl) rfl rfl ⟨f1, f2, f3, f4, f5, (pw_below_drewN HB.out 1)⟩ (fun hHeld => ?_)
  refine pure_ (i := 0) (N := some 10) (v := ?_) (a' := ?_) #[true, false, false, false, false, false, false, false, false, false, false, false, false, false, false, false, false, false, false, false] rfl rfl (by kernel_rfl) (fun _ _ _ h => h) (Or.inl ⟨by rfl, ?_⟩) ?_ ?_
  rotate_left
  · intro w'
    go_simp
    with_reducible rfl
  rotate_left
  · simp only [Act.put, List.setIfInBounds_toArray, List.set_cons_zero, List.set_cons_succ, i64_w, i32_w]
    rfl
  refine pure_ (i := 3) (N := some 13) (v := ?_) (a' := ?_) #[true, false, false, true, false, false, false, false, false, false, false, false, false, false, false, false, false, false, false, false] rfl rfl (by kernel_rfl) (fun _ _ _ h => h) (Or.inl ⟨by rfl, ?_⟩) ?_ ?_
  rotate_left
  · intro w'
    go_simp
    with_reducible rfl
  rotate_left
  · simp only [Act.put, List.setIfInBounds_toArray, List.set_cons_zero, List.set_cons_succ, i64_w, i32_w]
    rfl
  refine pure_ (i := 4) (N := some 14) (v := ?_) (a' := ?_) #[true, false, false, true, true, false, false, false, false, false, false, false, false, false, false, false, false, false, false, false] rfl rfl (by kernel_rfl) (fun _ _ _ h => h) (Or.inl ⟨by rfl, ?_⟩) ?_ ?_
  rotate_left
  · intro w'
    go_simp
    with_reducible rfl
  rotate_left
  · simp only [Act.put, List.setIfInBounds_toArray, List.set_cons_zero, List.set_cons_succ, i64_w, i32_w]
    rfl
  refine pure_ (i := 6) (N := some 16) (v := ?_) (a' := ?_) #[true, false, false, true, true, false, true, false, false, false, false, false, false, false, false, false, false, false, false, false] rfl rfl (by kernel_rfl) (fun _ _ _ h => h) (Or.inl ⟨by rfl, ?_⟩) ?_ ?_
  rotate_left
  · intro w'
    go_simp
    with_reducible rfl
  rotate_left
  · simp only [Act.put, List.setIfInBounds_toArray, List.set_cons_zero, List.set_cons_succ, i64_w, i32_w]
    rfl
  refine pure_ (i := 10) (N := some 20) (v := ?_) (a' := ?_) #[true, false, false, true, true, false, true, false, false, false, true, false, false, false, false, false, false, false, false, false] rfl rfl (by kernel_rfl) (fun _ _ _ h => h) (Or.inl ⟨by rfl, ?_⟩) ?_ ?_
  rotate_left
  · intro w'
    go_simp
    with_reducible rfl
  rotate_left
  · simp only [Act.put, List.setIfInBounds_toArray, List.set_cons_zero, List.set_cons_succ, i64_w, i32_w]
    rfl
  refine pure_ (i := 11) (N := some 21) (v := ?_) (a' := ?_) #[true, false, false, true, true, false, true, false, false, false, true, true, false, false, false, false, false, false, false, false] rfl rfl (by kernel_rfl) (fun _ _ _ h => h) (Or.inl ⟨by rfl, ?_⟩) ?_ ?_
  rotate_left
  · intro w'
    go_simp
    with_reducible rfl
  rotate_left
  · simp only [Act.put, List.setIfInBounds_toArray, List.set_cons_zero, List.set_cons_succ, i64_w, i32_w]
    rfl
  refine pure_ (i := 13) (N := some 23) (v := ?_) (a' := ?_) #[true, false, false, true, true, false, true, false, false, false, true, true, false, true, false, false, false, false, false, false] rfl rfl (by kernel_rfl) (fun _ _ _ h => h) (Or.inl ⟨by rfl, ?_⟩) ?_ ?_
  rotate_left
  · intro w'
    go_simp
    with_reducible rfl
  rotate_left
  · simp only [Act.put, List.setIfInBounds_toArray, List.set_cons_zero, List.set_cons_succ, i64_w, i32_w]
    rfl
  refine take_ (i := 1) (N := some 11) (v := ?_) (a' := ?_) #[true, true, false, true, true, false, true, false, false, false, true, true, false, true, false, false, false, false, false, false] rfl rfl (by kernel_rfl) (fun _ _ _ h => h) (Or.inl ⟨by rfl, ?_⟩) hHeld ?_ ?_
  rotate_left
  · rintro w' ⟨s0, s1, s2, s3, s4, s5⟩
    go_simp
    with_reducible rfl
  rotate_left
  · simp only [Act.put, List.setIfInBounds_toArray, List.set_cons_zero, List.set_cons_succ, i64_w, i32_w]
    rfl
  refine pure_ (i := 2) (N := some 12) (v := ?_) (a' := ?_) #[true, true, true, true, true, false, true, false, false, false, true, true, false, true, false, false, false, false, false, false] rfl rfl (by kernel_rfl) (fun _ _ _ h => h) (Or.inl ⟨by rfl, ?_⟩) ?_ ?_
  rotate_left
  · intro w'
    go_simp
    with_reducible rfl
  rotate_left
  · simp only [Act.put, List.setIfInBounds_toArray, List.set_cons_zero, List.set_cons_succ, i64_w, i32_w]
    rfl
  refine take_ (i := 5) (N := some 15) (v := ?_) (a' := ?_) #[true, true, true, true, true, true, true, false, false, false, true, true, false, true, false, false, false, false, false, false] rfl rfl (by kernel_rfl) (fun _ _ _ h => h) (Or.inl ⟨by rfl, ?_⟩) hHeld ?_ ?_
  rotate_left
  · rintro w' ⟨s0, s1, s2, s3, s4, s5⟩
    go_simp
    with_reducible rfl
  rotate_left
  · simp only [Act.put, List.setIfInBounds_toArray, List.set_cons_zero, List.set_cons_succ, i64_w, i32_w]
    rfl
  refine take_ (i := 7) (N := some 17) (v := ?_) (a' := ?_) #[true, true, true, true, true, true, true, true, false, false, true, true, false, true, false, false, false, false, false, false] rfl rfl (by kernel_rfl) (fun _ _ _ h => h) (Or.inl ⟨by rfl, ?_⟩) hHeld ?_ ?_
  rotate_left
  · rintro w' ⟨s0, s1, s2, s3, s4, s5⟩
    go_simp
    with_reducible rfl
  rotate_left
  · simp only [Act.put, List.setIfInBounds_toArray, List.set_cons_zero, List.set_cons_succ, i64_w, i32_w]
    rfl
  refine take_ (i := 12) (N := some 22) (v := ?_) (a' := ?_) #[true, true, true, true, true, true, true, true, false, false, true, true, true, true, false, false, false, false, false, false] rfl rfl (by kernel_rfl) (fun _ _ _ h => h) (Or.inl ⟨by rfl, ?_⟩) hHeld ?_ ?_
  rotate_left
  · rintro w' ⟨s0, s1, s2, s3, s4, s5⟩
    go_simp
    with_reducible rfl
  rotate_left
  · simp only [Act.put, List.setIfInBounds_toArray, List.set_cons_zero, List.set_cons_succ, i64_w, i32_w]
    rfl
  refine take_ (i := 14) (N := some 24) (v := ?_) (a' := ?_) #[true, true, true, true, true, true, true, true, false, false, true, true, true, true, true, false, false, false, false, false] rfl rfl (by kernel_rfl) (fun _ _ _ h => h) (Or.inl ⟨by rfl, ?_⟩) hHeld ?_ ?_
  rotate_left
  · rintro w' ⟨s0, s1, s2, s3, s4, s5⟩
    go_simp
    with_reducible rfl
  rotate_left
  · simp only [Act.put, List.setIfInBounds_toArray, List.set_cons_zero, List.set_cons_succ, i64_w, i32_w]
    rfl
  refine join_ (σ := Nat) 1 #[true, true, true, true, true, true, true, true, true, true, true, true, true, true, true, true, true, true, true, false] (fun s => [(18, .bool (pastB a1 a2_2 a0_1)), (25, .bool (pastB a1 a2_3 a0_0)), (7, .pointer (some ⟨s, 0, none⟩)), (19, .agg #[.bool (pastB a1 a2_2 a0_1), .int .i64 2]), (26, .agg #[.bool (pastB a1 a2_3 a0_0), .int .i64 3]), (27, .agg #[.bool a2_4, .int .i64 1, .bool (pastB a1 a2_2 a0_1), .int .i64 2, .bool (pastB a1 a2_3 a0_0), .int .i64 3])]) (fun s w' => w'.heap[s]? = some (.cells #[.bool false, .int .i64 0, .bool false, .int .i64 0, .bool false, .int .i64 0] 61 (0, 0)) ∧ w.heap.size ≤ s ∧ Below w.heap.size w w') ?_ ?_
  rotate_left
  · intro hCont
    refine two_ (i := 8) (j := 18) (Ni := some 18) (Nj := some 7) #[true, true, true, true, true, true, true, true, true, false, true, true, true, true, true, false, false, false, false, false] #[true, true, true, true, true, true, true, true, false, false, true, true, true, true, true, false, false, false, true, false] rfl rfl rfl rfl (by kernel_rfl) (by decide) (by decide) (fun K hK => ?_) (fun K hK => ?_)
    · skip
      refine goes_ Try.func28 (by kernel_rfl) rfl #[.int .u64 a1, .int .u64 a2_2, .int .u64 a0_1] (by rfl) rfl rfl (by simp only [List.map_toArray, List.map_cons, List.map_nil]; rfl) ?_
      with_reducible refine (past_any _ _ _ _).mono ?_
      rintro e w3 ⟨rfl, nd, rfl⟩
      refine ⟨_, rfl, ?_⟩
      refine hK.out _ _ ⟨(by exact hHeld.1), (by exact hHeld.2.1), (by exact hHeld.2.2.1), (by exact hHeld.2.2.2.1), (by exact hHeld.2.2.2.2.1), (pw_below_drewN hHeld.2.2.2.2.2 nd)⟩ (fun hHeld => ?_)
      clear hK K
      refine norm_ (a' := ?_) ?_ ?_
      rotate_left
      · show Act.put _ (some 18) _ = _
        simp only [Act.put, List.setIfInBounds_toArray, List.set_cons_zero, List.set_cons_succ, i64_w, i32_w]
        rfl
      refine pure_ (i := 9) (N := some 19) (v := ?_) (a' := ?_) #[true, true, true, true, true, true, true, true, true, true, true, true, true, true, true, false, false, false, false, false] rfl rfl (by kernel_rfl) (fun _ _ _ h => h) (Or.inl ⟨by rfl, ?_⟩) ?_ ?_
      rotate_left
      · intro w'
        go_simp
        with_reducible rfl
      rotate_left
      · simp only [Act.put, List.setIfInBounds_toArray, List.set_cons_zero, List.set_cons_succ, i64_w, i32_w]
        rfl
      refine two_ (i := 15) (j := 18) (Ni := some 25) (Nj := some 7) #[true, true, true, true, true, true, true, true, true, true, true, true, true, true, true, true, false, false, false, false] #[true, true, true, true, true, true, true, true, true, true, true, true, true, true, true, false, false, false, true, false] rfl rfl rfl rfl (by kernel_rfl) (by decide) (by decide) (fun K hK => ?_) (fun K hK => ?_)
      · skip
        refine goes_ Try.func28 (by kernel_rfl) rfl #[.int .u64 a1, .int .u64 a2_3, .int .u64 a0_0] (by rfl) rfl rfl (by simp only [List.map_toArray, List.map_cons, List.map_nil]; rfl) ?_
        with_reducible refine (past_any _ _ _ _).mono ?_
        rintro e w3 ⟨rfl, nd, rfl⟩
        refine ⟨_, rfl, ?_⟩
        refine hK.out _ _ ⟨(by exact hHeld.1), (by exact hHeld.2.1), (by exact hHeld.2.2.1), (by exact hHeld.2.2.2.1), (by exact hHeld.2.2.2.2.1), (pw_below_drewN hHeld.2.2.2.2.2 nd)⟩ (fun hHeld => ?_)
        clear hK K
        refine norm_ (a' := ?_) ?_ ?_
        rotate_left
        · show Act.put _ (some 25) _ = _
          simp only [Act.put, List.setIfInBounds_toArray, List.set_cons_zero, List.set_cons_succ, i64_w, i32_w]
          rfl
        refine pure_ (i := 16) (N := some 26) (v := ?_) (a' := ?_) #[true, true, true, true, true, true, true, true, true, true, true, true, true, true, true, true, true, false, false, false] rfl rfl (by kernel_rfl) (fun _ _ _ h => h) (Or.inl ⟨by rfl, ?_⟩) ?_ ?_
        rotate_left
        · intro w'
          go_simp
          with_reducible rfl
        rotate_left
        · simp only [Act.put, List.setIfInBounds_toArray, List.set_cons_zero, List.set_cons_succ, i64_w, i32_w]
          rfl
        refine pure_ (i := 17) (N := some 27) (v := ?_) (a' := ?_) #[true, true, true, true, true, true, true, true, true, true, true, true, true, true, true, true, true, true, false, false] rfl rfl (by kernel_rfl) (fun _ _ _ h => h) (Or.inl ⟨by rfl, ?_⟩) ?_ ?_
        rotate_left
        · intro w'
          go_simp
          with_reducible rfl
        rotate_left
        · simp only [Act.put, List.setIfInBounds_toArray, List.set_cons_zero, List.set_cons_succ, i64_w, i32_w]
          rfl
        refine one_ (i := 18) (N := some 7) #[true, true, true, true, true, true, true, true, true, true, true, true, true, true, true, true, true, true, true, false] rfl rfl (by kernel_rfl) (by decide) (fun K hK => ?_)
        refine alloc_step rfl (by rfl) (cs := #[.bool false, .int .i64 0, .bool false, .int .i64 0, .bool false, .int .i64 0]) (t := 61) ?_ ?_
        · go_simp
        intro gA hgA w3 hA hb3
        have HA0 := Aside0.mk hA
        have HG := Aside0.mk (Nat.le_trans (below_size hHeld.2.2.2.2.2) (Nat.le_of_eq hgA.symm))
        clear hA hgA
        refine hK.out _ _ ⟨(pw_cell_below hb3 hHeld.1), (pw_cell_below hb3 hHeld.2.1), (pw_cell_below hb3 hHeld.2.2.1), (pw_cell_below hb3 hHeld.2.2.2.1), (pw_cell_below hb3 hHeld.2.2.2.2.1), (below_step hHeld.2.2.2.2.2 hb3)⟩ (fun hHeld => ?_)
        clear hK K
        refine norm_ (a' := ?_) ?_ ?_
        rotate_left
        · show Act.put _ (some 7) _ = _
          simp only [Act.put, List.setIfInBounds_toArray, List.set_cons_zero, List.set_cons_succ, i64_w, i32_w]
          rfl
        exact norm_ (by simp only [putAll, Act.put, List.setIfInBounds_toArray, List.set_cons_zero, List.set_cons_succ]) (hCont gA _ ⟨HA0.out, HG.out, hHeld.2.2.2.2.2⟩)
      · skip
        refine alloc_step rfl (by rfl) (cs := #[.bool false, .int .i64 0, .bool false, .int .i64 0, .bool false, .int .i64 0]) (t := 61) ?_ ?_
        · go_simp
        intro gA hgA w3 hA hb3
        have HA0 := Aside0.mk hA
        have HG := Aside0.mk (Nat.le_trans (below_size hHeld.2.2.2.2.2) (Nat.le_of_eq hgA.symm))
        clear hA hgA
        refine hK.out _ _ ⟨(pw_cell_below hb3 hHeld.1), (pw_cell_below hb3 hHeld.2.1), (pw_cell_below hb3 hHeld.2.2.1), (pw_cell_below hb3 hHeld.2.2.2.1), (pw_cell_below hb3 hHeld.2.2.2.2.1), (below_step hHeld.2.2.2.2.2 hb3)⟩ (fun hHeld => ?_)
        clear hK K
        refine norm_ (a' := ?_) ?_ ?_
        rotate_left
        · show Act.put _ (some 7) _ = _
          simp only [Act.put, List.setIfInBounds_toArray, List.set_cons_zero, List.set_cons_succ, i64_w, i32_w]
          rfl
        refine one_ (i := 15) (N := some 25) #[true, true, true, true, true, true, true, true, true, true, true, true, true, true, true, true, false, false, true, false] rfl rfl (by kernel_rfl) (by decide) (fun K hK => ?_)
        refine goes_ Try.func28 (by kernel_rfl) rfl #[.int .u64 a1, .int .u64 a2_3, .int .u64 a0_0] (by rfl) rfl rfl (by simp only [List.map_toArray, List.map_cons, List.map_nil]; rfl) ?_
        with_reducible refine (past_any _ _ _ _).mono ?_
        rintro e w3 ⟨rfl, nd, rfl⟩
        refine ⟨_, rfl, ?_⟩
        have HA := Aside0.mk (blk_drewN HA0.out nd)
        clear HA0
        have HA0 := HA
        clear HA
        refine hK.out _ _ ⟨(by exact hHeld.1), (by exact hHeld.2.1), (by exact hHeld.2.2.1), (by exact hHeld.2.2.2.1), (by exact hHeld.2.2.2.2.1), (pw_below_drewN hHeld.2.2.2.2.2 nd)⟩ (fun hHeld => ?_)
        clear hK K
        refine norm_ (a' := ?_) ?_ ?_
        rotate_left
        · show Act.put _ (some 25) _ = _
          simp only [Act.put, List.setIfInBounds_toArray, List.set_cons_zero, List.set_cons_succ, i64_w, i32_w]
          rfl
        refine pure_ (i := 16) (N := some 26) (v := ?_) (a' := ?_) #[true, true, true, true, true, true, true, true, true, true, true, true, true, true, true, true, true, false, true, false] rfl rfl (by kernel_rfl) (fun _ _ _ h => h) (Or.inl ⟨by rfl, ?_⟩) ?_ ?_
        rotate_left
        · intro w'
          go_simp
          with_reducible rfl
        rotate_left
        · simp only [Act.put, List.setIfInBounds_toArray, List.set_cons_zero, List.set_cons_succ, i64_w, i32_w]
          rfl
        refine pure_ (i := 17) (N := some 27) (v := ?_) (a' := ?_) #[true, true, true, true, true, true, true, true, true, true, true, true, true, true, true, true, true, true, true, false] rfl rfl (by kernel_rfl) (fun _ _ _ h => h) (Or.inl ⟨by rfl, ?_⟩) ?_ ?_
        rotate_left
        · intro w'
          go_simp
          with_reducible rfl
        rotate_left
        · simp only [Act.put, List.setIfInBounds_toArray, List.set_cons_zero, List.set_cons_succ, i64_w, i32_w]
          rfl
        exact norm_ (by simp only [putAll, Act.put, List.setIfInBounds_toArray, List.set_cons_zero, List.set_cons_succ]) (hCont gA _ ⟨HA0.out, HG.out, hHeld.2.2.2.2.2⟩)
    · skip
      refine alloc_step rfl (by rfl) (cs := #[.bool false, .int .i64 0, .bool false, .int .i64 0, .bool false, .int .i64 0]) (t := 61) ?_ ?_
      · go_simp
      intro gA hgA w3 hA hb3
      have HA0 := Aside0.mk hA
      have HG := Aside0.mk (Nat.le_trans (below_size hHeld.2.2.2.2.2) (Nat.le_of_eq hgA.symm))
      clear hA hgA
      refine hK.out _ _ ⟨(pw_cell_below hb3 hHeld.1), (pw_cell_below hb3 hHeld.2.1), (pw_cell_below hb3 hHeld.2.2.1), (pw_cell_below hb3 hHeld.2.2.2.1), (pw_cell_below hb3 hHeld.2.2.2.2.1), (below_step hHeld.2.2.2.2.2 hb3)⟩ (fun hHeld => ?_)
      clear hK K
      refine norm_ (a' := ?_) ?_ ?_
      rotate_left
      · show Act.put _ (some 7) _ = _
        simp only [Act.put, List.setIfInBounds_toArray, List.set_cons_zero, List.set_cons_succ, i64_w, i32_w]
        rfl
      refine one_ (i := 8) (N := some 18) #[true, true, true, true, true, true, true, true, true, false, true, true, true, true, true, false, false, false, true, false] rfl rfl (by kernel_rfl) (by decide) (fun K hK => ?_)
      refine goes_ Try.func28 (by kernel_rfl) rfl #[.int .u64 a1, .int .u64 a2_2, .int .u64 a0_1] (by rfl) rfl rfl (by simp only [List.map_toArray, List.map_cons, List.map_nil]; rfl) ?_
      with_reducible refine (past_any _ _ _ _).mono ?_
      rintro e w3 ⟨rfl, nd, rfl⟩
      refine ⟨_, rfl, ?_⟩
      have HA := Aside0.mk (blk_drewN HA0.out nd)
      clear HA0
      have HA0 := HA
      clear HA
      refine hK.out _ _ ⟨(by exact hHeld.1), (by exact hHeld.2.1), (by exact hHeld.2.2.1), (by exact hHeld.2.2.2.1), (by exact hHeld.2.2.2.2.1), (pw_below_drewN hHeld.2.2.2.2.2 nd)⟩ (fun hHeld => ?_)
      clear hK K
      refine norm_ (a' := ?_) ?_ ?_
      rotate_left
      · show Act.put _ (some 18) _ = _
        simp only [Act.put, List.setIfInBounds_toArray, List.set_cons_zero, List.set_cons_succ, i64_w, i32_w]
        rfl
      refine pure_ (i := 9) (N := some 19) (v := ?_) (a' := ?_) #[true, true, true, true, true, true, true, true, true, true, true, true, true, true, true, false, false, false, true, false] rfl rfl (by kernel_rfl) (fun _ _ _ h => h) (Or.inl ⟨by rfl, ?_⟩) ?_ ?_
      rotate_left
      · intro w'
        go_simp
        with_reducible rfl
      rotate_left
      · simp only [Act.put, List.setIfInBounds_toArray, List.set_cons_zero, List.set_cons_succ, i64_w, i32_w]
        rfl
      refine one_ (i := 15) (N := some 25) #[true, true, true, true, true, true, true, true, true, true, true, true, true, true, true, true, false, false, true, false] rfl rfl (by kernel_rfl) (by decide) (fun K hK => ?_)
      refine goes_ Try.func28 (by kernel_rfl) rfl #[.int .u64 a1, .int .u64 a2_3, .int .u64 a0_0] (by rfl) rfl rfl (by simp only [List.map_toArray, List.map_cons, List.map_nil]; rfl) ?_
      with_reducible refine (past_any _ _ _ _).mono ?_
      rintro e w3 ⟨rfl, nd, rfl⟩
      refine ⟨_, rfl, ?_⟩
      have HA := Aside0.mk (blk_drewN HA0.out nd)
      clear HA0
      have HA0 := HA
      clear HA
      refine hK.out _ _ ⟨(by exact hHeld.1), (by exact hHeld.2.1), (by exact hHeld.2.2.1), (by exact hHeld.2.2.2.1), (by exact hHeld.2.2.2.2.1), (pw_below_drewN hHeld.2.2.2.2.2 nd)⟩ (fun hHeld => ?_)
      clear hK K
      refine norm_ (a' := ?_) ?_ ?_
      rotate_left
      · show Act.put _ (some 25) _ = _
        simp only [Act.put, List.setIfInBounds_toArray, List.set_cons_zero, List.set_cons_succ, i64_w, i32_w]
        rfl
      refine pure_ (i := 16) (N := some 26) (v := ?_) (a' := ?_) #[true, true, true, true, true, true, true, true, true, true, true, true, true, true, true, true, true, false, true, false] rfl rfl (by kernel_rfl) (fun _ _ _ h => h) (Or.inl ⟨by rfl, ?_⟩) ?_ ?_
      rotate_left
      · intro w'
        go_simp
        with_reducible rfl
      rotate_left
      · simp only [Act.put, List.setIfInBounds_toArray, List.set_cons_zero, List.set_cons_succ, i64_w, i32_w]
        rfl
      refine pure_ (i := 17) (N := some 27) (v := ?_) (a' := ?_) #[true, true, true, true, true, true, true, true, true, true, true, true, true, true, true, true, true, true, true, false] rfl rfl (by kernel_rfl) (fun _ _ _ h => h) (Or.inl ⟨by rfl, ?_⟩) ?_ ?_
      rotate_left
      · intro w'
        go_simp
        with_reducible rfl
      rotate_left
      · simp only [Act.put, List.setIfInBounds_toArray, List.set_cons_zero, List.set_cons_succ, i64_w, i32_w]
        rfl
      exact norm_ (by simp only [putAll, Act.put, List.setIfInBounds_toArray, List.set_cons_zero, List.set_cons_succ]) (hCont gA _ ⟨HA0.out, HG.out, hHeld.2.2.2.2.2⟩)
  rintro gA w3 ⟨hA, hGA, hbA⟩
  have k0 := (blk_cell hA 0).trans rfl
  have k1 := (blk_cell hA 1).trans rfl
  have k2 := (blk_cell hA 2).trans rfl
  have k3 := (blk_cell hA 3).trans rfl
  have k4 := (blk_cell hA 4).trans rfl
  have k5 := (blk_cell hA 5).trans rfl
  have z0 := blk_frozen hA 0
  have z1 := blk_frozen hA 1
  have z2 := blk_frozen hA 2
  have z3 := blk_frozen hA 3
  have z4 := blk_frozen hA 4
  have z5 := blk_frozen hA 5
  refine norm_ (a' := ?_) ?_ ?_
  rotate_left
  · simp only [putAll, Act.put, List.setIfInBounds_toArray, List.set_cons_zero, List.set_cons_succ]
    rfl
  refine last_ (i := 19) (N := none) #[true, true, true, true, true, true, true, true, true, true, true, true, true, true, true, true, true, true, true, true] rfl rfl (by kernel_rfl) (by decide) (fun K hK => ?_)
  refine skip_ (w1 := ?_) (by rfl) rfl ?_ ?_
  rotate_left
  · go_simp
    rfl
  refine hK.out _ _ ?_
  clear hK K
  refine done_ (by kernel_rfl) ?_

  clear k0 k1 k2 k3 k4 k5 z0 z1 z2 z3 z4 z5 f1 f2 f3 f4 f5 HB
  obtain ⟨p, hp⟩ : ∃ p, pastB a1 a2_2 a0_1 = p := ⟨_, rfl⟩
  obtain ⟨q, hq⟩ : ∃ q, pastB a1 a2_3 a0_0 = q := ⟨_, rfl⟩
  rw [hp, hq]
  have HP := Aside0.mk hp
  have HQ := Aside0.mk hq
  clear hp hq
  obtain ⟨W4, hW4⟩ : ∃ W4, W4 = (((((w3.setCell ⟨gA, 0, none⟩ (.bool a2_4)).setCell ⟨gA, 1, none⟩ (.int .i64 1)).setCell ⟨gA, 2, none⟩ (.bool p)).setCell ⟨gA, 3, none⟩ (.int .i64 2)).setCell ⟨gA, 4, none⟩ (.bool q)).setCell ⟨gA, 5, none⟩ (.int .i64 3) := ⟨_, rfl⟩
  rw [← hW4]
  have hA4 : W4.heap[gA]? = some (.cells #[.bool a2_4, .int .i64 1, .bool p, .int .i64 2, .bool q, .int .i64 3] 61 (0, 0)) := by
    rw [hW4]; exact blk_set (blk_set (blk_set (blk_set (blk_set (blk_set hA 0 _) 1 _) 2 _) 3 _) 4 _) 5 _
  have hb4 : Below w.heap.size w W4 := by
    rw [hW4]; exact below_set (below_set (below_set (below_set (below_set (below_set hbA hGA) hGA) hGA) hGA) hGA) hGA
  have HB := Aside0.mk hb4
  clear hW4 hA hbA hb4 hGA
  have k0 := (blk_cell hA4 0).trans rfl
  have k1 := (blk_cell hA4 1).trans rfl
  have k2 := (blk_cell hA4 2).trans rfl
  have k3 := (blk_cell hA4 3).trans rfl
  have k4 := (blk_cell hA4 4).trans rfl
  have k5 := (blk_cell hA4 5).trans rfl
  clear hA4
  go_wp2
  have i0 : ∀ W, (Instr.index 61 (.agg #[.bool a2_4, .int .i64 1, .bool p, .int .i64 2, .bool q, .int .i64 3]) (.int .i64 0)).run Try.prog W = .ok (.agg #[.bool a2_4, .int .i64 1]) W := fun _ => by kernel_rfl
  have i1 : ∀ W, (Instr.index 61 (.agg #[.bool a2_4, .int .i64 1, .bool p, .int .i64 2, .bool q, .int .i64 3]) (.int .i64 1)).run Try.prog W = .ok (.agg #[.bool p, .int .i64 2]) W := fun _ => by kernel_rfl
  have i2 : ∀ W, (Instr.index 61 (.agg #[.bool a2_4, .int .i64 1, .bool p, .int .i64 2, .bool q, .int .i64 3]) (.int .i64 2)).run Try.prog W = .ok (.agg #[.bool q, .int .i64 3]) W := fun _ => by kernel_rfl
  refine wp_loop_rounds 4 ?_
  cases a2_4 with
  | true =>
    rw [rounds_succ]
    go_wp2
    go_ret
    exact ⟨by rw [HP.out, HQ.out]; rfl, by repeat (first | exact HB.out | apply below_alloc)⟩
  | false =>
    rw [rounds_succ]
    go_wp2
    rw [rounds_succ]
    cases p with
    | true =>
      go_wp2
      go_ret
      exact ⟨by rw [HP.out, HQ.out]; rfl, by repeat (first | exact HB.out | apply below_alloc)⟩
    | false =>
      go_wp2
      rw [rounds_succ]
      cases q with
      | true =>
        go_wp2
        go_ret
        exact ⟨by rw [HP.out, HQ.out]; rfl, by repeat (first | exact HB.out | apply below_alloc)⟩
      | false =>
        go_wp2
        rw [rounds_succ]
        go_wp2
        go_ret
        exact ⟨by rw [HP.out, HQ.out]; rfl, by repeat (first | exact HB.out | apply below_alloc)⟩
theorem clock_Why.calls (a0_0 : Int) (a0_1 : Int) (a0_2 : Int) (a0_3 : Int) (A0_4 : Option Addr) (c0_4 : Nat) (l0_4 : List Int) (a1 : Int) (a2_0 : ByteArray) (a2_1 : ByteArray) (a2_2 : Int) (a2_3 : Int) (a2_4 : Bool) (r : Int) (w : World) (hr0_4 : Kd.C (Kd.int .u8) w A0_4 l0_4.length l0_4) (hc0_4 : l0_4.length ≤ c0_4) (h : clock_Why.f a0_0 a0_1 a0_2 a0_3 l0_4 a1 a2_0 a2_1 a2_2 a2_3 a2_4 = some r) :
    Calls Try.prog 19 #[.agg #[.int .u64 a0_0, .int .u64 a0_1, .int .u64 a0_2, .int .i64 a0_3, .slice A0_4 l0_4.length c0_4], .int .u64 a1, .agg #[.string a2_0, .string a2_1, .int .u64 a2_2, .int .u64 a2_3, .bool a2_4]] w fun e w' => e = .returned (.int .i64 r) ∧ Below w.heap.size w w' := by
  obtain rfl := Option.some.inj h
  exact why_any a0_0 a0_1 a0_2 a0_3 A0_4 l0_4.length c0_4 a1 a2_0 a2_1 a2_2 a2_3 a2_4 w
end Go.Proofs.Ytclmjhpbhmbdaaa.Hand
