/- fill: Parse. -/
import Derived.Test.YtjbghpkdehikfaaDoorProg
import Derived.Below
import Derived.Deep.Draws
import Derived.Deep.AppendLies
import Derived.Maps.AppendAt
import Derived.OwnWalk
import Derived.Laws.BytesArg
import Derived.Laws.MakeOwn
import Derived.Laws.OwnMore
import Derived.Deep.OwnRows
import Derived.Tactics
import Derived.Lib.ConvBytes
import Derived.Laws.Slices
import Derived.WalkKit
import Derived.KernelRfl
import Derived.RowKit3
import Derived.Deep.LoopGhost
import Derived.Deep.QuietTactic
import Derived.BigQuiet
import Derived.WideLaws
import Derived.Deep.DeepCutAuto
import Derived.Deep.CutBlock
import Derived.Deep.RegionHeld3
import Derived.Laws.Rows
import Derived.Lib.AppendStr
import Derived.ArgAppend
import Derived.Laws.IdiomCopy
import Derived.OrdersHeld
import Derived.Laws.BitsLemmas
import Derived.RowKit
import Derived.Test.YtjbghpkdehikfaaDoorWWords
import Derived.Test.YtjbghpkdehikfaaDoorWLast
import Derived.Test.YtjbghpkdehikfaaDoorWTab
import Derived.Test.YtjbghpkdehikfaaDoorWFour
import Derived.Test.YtjbghpkdehikfaaDoorWQPut
import Derived.Test.YtjbghpkdehikfaaDoorWApart
import Derived.Test.YtjbghpkdehikfaaDoorWArr
import Derived.Test.YtjbghpkdehikfaaDoorWZeros
import Derived.Test.YtjbghpkdehikfaaDoorWFoot
import Derived.Test.YtjbghpkdehikfaaDoorWKept
import Derived.Test.YtjbghpkdehikfaaDoorWShare
import Derived.Test.YtjbghpkdehikfaaDoorWN
import Derived.Test.YtjbghpkdehikfaaDoorWFootNe
import Derived.Test.YtjbghpkdehikfaaDoorWAt
import Derived.Test.YtjbghpkdehikfaaDoorWEqStruct
import Derived.Test.YtjbghpkdehikfaaDoorWRepsOne
import Derived.Test.YtjbghpkdehikfaaDoorWInv
import Derived.Test.YtjbghpkdehikfaaDoorWInvWords
import Derived.Test.YtjbghpkdehikfaaDoorWGuard
import Derived.Test.YtjbghpkdehikfaaDoorWNEv
import Derived.Test.YtjbghpkdehikfaaDoorWMore
import Derived.Outline
import Derived.Laws.IdiomStrings
import Derived.RangeFuncLeaves
import Derived.RangeFuncBox
import Derived.RangeFuncCalls
import Derived.Shelf.Abstract
import Derived.Shelf.RegionOpen
import Derived.OwnWalkIn
import Derived.TacticsInMore
import Derived.LoopNIn
import Derived.LoopIn
import Derived.Test.YtjbghpkdehikfaaDoorHSplit
import Derived.Test.YtjbghpkdehikfaaDoorHEsc
namespace Go.Proofs.YtjbghpkdehikfaaDoor.Hand
open Go.RowKit Go.Shelf Go.Proofs.YtjbghpkdehikfaaDoorW.PrintWords Go.Proofs.YtjbghpkdehikfaaDoorW.PrintLast Go.Proofs.YtjbghpkdehikfaaDoorW.PrintMore
set_option linter.unusedVariables false
set_option linter.unusedSimpArgs false
attribute [local go_sem] Oper.semAt_some
/-- bytes that lie behind a slice's address, in blocks below B -/
def Bys (B : Nat) (w : World) (A : Option Addr) (l : List UInt8) : Prop :=
  (A = none ∧ l = []) ∨ ∃ a, A = some a ∧ a.block < B ∧ ∀ j (hj : j < l.length), w.cell? (a.add j) = some (.int .u8 ((l[j]'hj).toNat : Int))
theorem addr_add_block (a : Addr) (j : Nat) : (a.add j).block = a.block := by unfold Addr.add; split <;> rfl
theorem Bys.below {B : Nat} {w X : World} {A : Option Addr} {l : List UInt8} (h : Bys B w A l) (hb : Below B w X) : Bys B X A l := by
  rcases h with h | ⟨a, rfl, h1, h2⟩
  · exact .inl h
  · exact .inr ⟨a, rfl, h1, fun j hj => (hb.cell (p := a.add j) (by rw [addr_add_block]; exact h1)).trans (h2 j hj)⟩
theorem Bys.conv {B : Nat} {w : World} {A : Option Addr} {l : List UInt8} (h : Bys B w A l) (c : Nat) :
    (convert 22 9 (.slice A l.length c)).run Tryd.prog w = .ok (.string ⟨l.toArray⟩) w := by
  rcases h with ⟨rfl, rfl⟩ | ⟨a, rfl, h1, h2⟩
  · exact run_convert_bytes_nil w 22 5 Tryd.underlying22 Tryd.underlying5 0 c 9 Tryd.underlying9
  · exact run_convert_bytes_back w 22 9 5 a c l Tryd.underlying22 Tryd.underlying5 Tryd.underlying9 h2
abbrev Pr := List UInt8 × List UInt8
/-- one pair of a form -/
def pairR (p : List UInt8) : Option Pr :=
  match unR (cutR 61 p).1, unR (cutR 61 p).2.1 with
  | some n, some v => if n = [] then none else some (n, v)
  | _, _ => none
def pairsR : List (List UInt8) → Option (List Pr)
  | [] => some []
  | p :: ps => match pairR p, pairsR ps with
    | some x, some xs => some (x :: xs)
    | _, _ => none
def parseR (l : List UInt8) : List Pr × Int :=
  if l = [] then ([], 0) else if 30 ≤ l.count 38 then ([], 3) else match pairsR (splitR 38 l) with | some ps => (ps, 0) | none => ([], 10)
def pcells (ps : List Pr) : List Value := ps.flatMap fun p => [.string ⟨p.1.toArray⟩, .string ⟨p.2.toArray⟩]
theorem pcells_len (ps : List Pr) : (pcells ps).length = ps.length * 2 := by
  induction ps with
  | nil => rfl
  | cons p ps ih => simp [pcells] at ih ⊢; omega
theorem pcells_app (ps qs : List Pr) : pcells (ps ++ qs) = pcells ps ++ pcells qs := by simp [pcells]
theorem pairsR_snoc (ps : List (List UInt8)) (p : List UInt8) : pairsR (ps ++ [p]) = match pairsR ps, pairR p with | some xs, some x => some (xs ++ [x]) | _, _ => none := by
  induction ps with
  | nil => simp [pairsR]; cases pairR p <;> rfl
  | cons q ps ih =>
    simp only [List.cons_append, pairsR, ih]
    cases pairR q <;> cases pairsR ps <;> cases pairR p <;> rfl
theorem pairsR_pre {ps qs : List (List UInt8)} (h : ps <+: qs) (hn : pairsR ps = none) : pairsR qs = none := by
  obtain ⟨t, rfl⟩ := h
  induction ps with
  | nil => cases hn
  | cons p ps ih =>
    simp only [List.cons_append, pairsR] at hn ⊢
    cases hp : pairR p with
    | none => rfl
    | some x =>
      rw [hp] at hn
      cases hq : pairsR ps with
      | none => rw [ih hq]
      | some xs => rw [hq] at hn; cases hn
theorem pairsR_len {ps : List (List UInt8)} {xs : List Pr} (h : pairsR ps = some xs) : xs.length = ps.length := by
  induction ps generalizing xs with
  | nil => cases h; rfl
  | cons p ps ih =>
    simp only [pairsR] at h
    cases hp : pairR p with
    | none => rw [hp] at h; cases h
    | some x =>
      rw [hp] at h
      cases hq : pairsR ps with
      | none => rw [hq] at h; cases h
      | some ys => rw [hq] at h; cases h; simp [ih hq]
theorem splitR_len (c : UInt8) (l : List UInt8) : (splitR c l).length = l.count c + 1 := by
  induction l with
  | nil => rfl
  | cons x l ih =>
    rw [splitR_cons]
    by_cases hx : x = c
    · rw [if_pos hx, hx]; simp [ih]
    · rw [if_neg hx, List.count_cons_of_ne hx]
      cases h : splitR c l with
      | nil => exact absurd h (splitR_ne c l)
      | cons p ps => rw [h] at ih; simpa using ih
theorem splitR_mem (c : UInt8) (l : List UInt8) : ∀ p ∈ splitR c l, p.length ≤ l.length := by
  induction l with
  | nil => intro p hp; simp [splitR] at hp; simp [hp]
  | cons x l ih =>
    rw [splitR_cons]
    by_cases hx : x = c
    · rw [if_pos hx]
      intro p hp
      rcases List.mem_cons.1 hp with rfl | hp
      · simp
      · have := ih p hp; simp; omega
    · rw [if_neg hx]
      cases h : splitR c l with
      | nil => exact absurd h (splitR_ne c l)
      | cons q ps =>
        rw [h] at ih
        intro p hp
        rcases List.mem_cons.1 hp with rfl | hp
        · have := ih q (by simp); simp; omega
        · have := ih p (by simp [hp]); simp; omega
theorem cutR_len (c : UInt8) (l : List UInt8) : (cutR c l).1.length ≤ l.length ∧ (cutR c l).2.1.length ≤ l.length := by
  induction l with
  | nil => simp [cutR]
  | cons x l ih =>
    rw [cutR_cons]
    split
    · simp
    · exact ⟨by simp; omega, by have := ih.2; simp; omega⟩
/-- a slice of pairs that lies in memory of its own -/
def OwnP (B : Nat) (w : World) (v : Value) (ps : List Pr) : Prop := w.ownsRow B 32 2 v ps.length (pcells ps) ∧ (v = .slice none 0 0 ↔ ps = [])
theorem OwnP.nil (B : Nat) (w : World) : OwnP B w (.slice none 0 0) [] := ⟨World.ownsRow_nil _ _ _ _, by simp⟩

theorem res_cells (tmps : Array Value) (W : World) (r0 r1 : Nat) (v e : Value) (h2 : tmps.getD 2 undef = .pointer (some ⟨r0, 0, none⟩)) (h3 : tmps.getD 3 undef = .pointer (some ⟨r1, 0, none⟩))
    (c2 : W.cell? ⟨r0, 0, none⟩ = some v) (c3 : W.cell? ⟨r1, 0, none⟩ = some e) : (results Tryd.f17 tmps).run Tryd.prog W = .ok (.tuple #[v, e]) W := by
  have h2' : tmps[2]?.getD undef = .pointer (some ⟨r0, 0, none⟩) := by simpa using h2
  have h3' : tmps[3]?.getD undef = .pointer (some ⟨r1, 0, none⟩) := by simpa using h3
  simp [results, h2', h3', asAddr, go_sem, c2, c3]

set_option maxHeartbeats 1600000 in
set_option maxRecDepth 100000 in
theorem parse_nil (A : Option Addr) (c : Nat) (w : World) :
    Calls Tryd.prog 17 #[.slice A 0 c] w fun e w' => ∃ v, e = .returned (.tuple #[v, .int .u16 0]) ∧ OwnP w.heap.size w' v [] ∧ Below w.heap.size w w' := by
  have b0 := (Boxed.new w 29 (.slice none 0 0)).alloc (.cells #[.int .u16 0] 37)
  have b1 := Boxed.new (w.alloc (.cells #[.slice none 0 0] 29)) 37 (.int .u16 0)
  rw [World.size_alloc] at b1
  have hb : Below w.heap.size w ((w.alloc (.cells #[.slice none 0 0] 29)).alloc (.cells #[.int .u16 0] 37)) := ((Below.refl _ w).alloc (Nat.le_refl _) _).alloc (by simp) _
  go_enter Tryd.func17, Tryd.ntmps17
  go_wp2
  refine bodyPost_ret (res_cells _ _ w.heap.size (w.heap.size + 1) (.slice none 0 0) (.int .u16 0) rfl rfl b0.cell b1.cell) rfl ?_
  exact ⟨_, rfl, OwnP.nil _ _, hb⟩

set_option maxHeartbeats 1600000 in
set_option maxRecDepth 100000 in
theorem parse_long (A : Option Addr) (c : Nat) (l : List UInt8) (w : World) (hA : ∀ X, Below w.heap.size w X → (convert 22 9 (.slice A l.length c)).run Tryd.prog X = .ok (.string ⟨l.toArray⟩) X) (h0 : l ≠ []) (h1 : 30 ≤ l.count 38) :
    Calls Tryd.prog 17 #[.slice A l.length c] w fun e w' => ∃ v, e = .returned (.tuple #[v, .int .u16 3]) ∧ OwnP w.heap.size w' v [] ∧ Below w.heap.size w w' := by
  have c0 := ((Boxed.new w 29 (.slice none 0 0)).alloc (.cells #[.int .u16 3] 37)).cell
  have b1 := Boxed.new (w.alloc (.cells #[.slice none 0 0] 29)) 37 (.int .u16 3)
  rw [World.size_alloc] at b1
  have c1 := b1.cell
  clear b1
  have hb : Below w.heap.size w ((w.alloc (.cells #[.slice none 0 0] 29)).alloc (.cells #[.int .u16 0] 37)) := ((Below.refl _ w).alloc (Nat.le_refl _) _).alloc (by simp) _
  have hcv := hA _ hb
  have hlen : 0 < l.length := List.length_pos_iff.2 h0
  have e0 : ((l.length : Int) == 0) = false := beq_eq_false_iff_ne.2 (by omega)
  have e1 : decide ((30 : Int) ≤ (l.count 38 : Int)) = true := decide_eq_true (by omega)
  have hI : ∀ w, Calls Tryd.prog 28 #[.string ⟨l.toArray⟩, .string ⟨#[38]⟩] w fun e w' => e = .returned (.int .i64 (l.count 38 : Nat)) ∧ w' = w := fun w => Tryd.strings_Count_one ⟨l.toArray⟩ 38 w
  have hb2 : Below w.heap.size w ((w.alloc (.cells #[.slice none 0 0] 29)).alloc (.cells #[.int .u16 3] 37)) := ((Below.refl _ w).alloc (Nat.le_refl _) _).alloc (by simp) _
  clear h0
  go_enter Tryd.func17, Tryd.ntmps17
  go_wp2_with (go_at_call 28; ((with_reducible refine (hI _).mono ?_); rintro e w1 ⟨rfl, rfl⟩))
  refine bodyPost_ret (res_cells _ _ w.heap.size (w.heap.size + 1) (.slice none 0 0) (.int .u16 3) rfl rfl c0 c1) rfl ?_
  exact ⟨_, rfl, OwnP.nil _ _, hb2⟩

theorem infoP : (Tryd.prog.info? 32).map (fun i => (i.zero, i.size, i.bytes)) = some (some (.agg #[.string ⟨#[]⟩, .string ⟨#[]⟩]), 2, 32) := by kernel_rfl

theorem others_of_below {W W' : World} (h : Below W.heap.size W W') : KeepsOthers W W' := ⟨h.size, fun k o hk _ => (h.block k (Array.getElem?_eq_some_iff.1 hk).1).trans hk⟩
theorem boxed_under {W W' : World} {B : Nat} {t : TypeId} {v : Value} (h : Boxed W B t v) (hb : Below W.heap.size W W') : Boxed W' B t v := (hb.block B h.lt).trans h
theorem boxed_grown {W W' : World} {row : Option Nat} {B Bd : Nat} {t : TypeId} {v : Value} (h : Boxed W B t v) (hg : W.grownBy W' row) (hr : ∀ r, row = some r → Bd ≤ r ∧ ∃ o : Obj, W.heap[r]? = some o ∧ o.isCells = false) : Boxed W' B t v := by
  refine h.kept hg (fun e' => ?_)
  obtain ⟨_, o, ho, hc⟩ := hr B e'.symm
  rw [show W.heap[B]? = _ from h] at ho; cases ho; cases hc
theorem boxed_set {W : World} {B k : Nat} {t : TypeId} {v u : Value} (h : Boxed W B t v) (hne : B ≠ k) : Boxed (W.setCell ⟨k, 0, none⟩ u) B t v := h.kept (grownBy_setCell' _ _ _) (by simpa using hne)
theorem OwnP.under {B : Nat} {W W' : World} {v : Value} {ps : List Pr} (h : OwnP B W v ps) (hb : Below W.heap.size W W') : OwnP B W' v ps :=
  ⟨h.1.kept (row := none) ⟨hb.os, hb.tape, hb.output, hb.size, fun k hk _ => hb.block k hk⟩ (by cases v.ownBlock <;> simp), h.2⟩
theorem OwnP.grown {B Bd : Nat} {W W' : World} {row : Option Nat} {v : Value} {ps : List Pr} (h : OwnP B W v ps) (hg : W.grownBy W' row) (hr : ∀ r, row = some r → Bd ≤ r ∧ ∃ o : Obj, W.heap[r]? = some o ∧ o.isCells = false) : OwnP B W' v ps := by
  refine ⟨h.1.kept hg ?_, h.2⟩
  rcases h.1.2 with ⟨rfl, _⟩ | ⟨g, cap, cur, rfl, _, hgb, _⟩
  · exact .inl rfl
  · refine .inr fun e' => ?_
    obtain ⟨_, o, ho, hc⟩ := hr g (by simpa [Value.ownBlock] using e'.symm)
    rw [hgb] at ho; cases ho; cases hc
theorem OwnP.set {B k : Nat} {W : World} {v u u' : Value} {t : TypeId} {ps : List Pr} (h : OwnP B W v ps) (hb : Boxed W k t u') (ht : t ≠ 32) : OwnP B (W.setCell ⟨k, 0, none⟩ u) v ps :=
  ⟨h.1.kept (grownBy_setCell' _ _ _) (.inr (hb.not_row ht h.1).symm), h.2⟩

/-- what Parse's loop keeps -/
structure PI (n0 : Nat) (w : World) (ps : List Pr) (v : Value) (W : World) : Prop where
  bo : Boxed W (n0 + 1 + 1) 29 v
  own : OwnP n0 W v ps
  b0 : Boxed W n0 29 (.slice none 0 0)
  b1 : Boxed W (n0 + 1) 37 (.int .u16 0)
  bs : ∃ u, Boxed W (n0 + 1 + 1 + 1) 9 u
  bp : ∃ u, Boxed W (n0 + 1 + 1 + 1 + 1) 9 u
  bz : ∃ u, Boxed W (n0 + 1 + 1 + 1 + 2) 3 u
  hb : Below n0 w W
theorem PI.grown {n0 Bd : Nat} {w W W' : World} {ps : List Pr} {v : Value} {row : Option Nat} (h : PI n0 w ps v W) (hn : n0 ≤ w.heap.size) (hB : n0 ≤ Bd) (hg : W.grownBy W' row) (hr : ∀ r, row = some r → Bd ≤ r ∧ ∃ o : Obj, W.heap[r]? = some o ∧ o.isCells = false) : PI n0 w ps v W' :=
  ⟨boxed_grown h.bo hg hr, h.own.grown hg hr, boxed_grown h.b0 hg hr, boxed_grown h.b1 hg hr, h.bs.imp fun _ x => boxed_grown x hg hr, h.bp.imp fun _ x => boxed_grown x hg hr, h.bz.imp fun _ x => boxed_grown x hg hr, h.hb.grown hg (Nat.le_trans hn h.hb.size) (fun k e => Nat.le_trans hB (hr k e).1)⟩
theorem PI.set {n0 : Nat} {w W : World} {ps : List Pr} {v : Value} (h : PI n0 w ps v W) (u : Value) : PI n0 w ps v (W.setCell ⟨n0 + 1 + 1 + 1, 0, none⟩ u) := by
  obtain ⟨_, hs⟩ := h.bs
  exact ⟨boxed_set h.bo (by omega), h.own.set hs (by decide), boxed_set h.b0 (by omega), boxed_set h.b1 (by omega), ⟨u, hs.set u⟩, h.bp.imp fun _ x => boxed_set x (by omega), h.bz.imp fun _ x => boxed_set x (by omega), h.hb.setCell (p := ⟨n0 + 1 + 1 + 1, 0, none⟩) (by show n0 ≤ n0 + 1 + 1 + 1; omega) u⟩
theorem PI.under {n0 : Nat} {w W W' : World} {ps : List Pr} {v : Value} (h : PI n0 w ps v W) (hn : n0 ≤ W.heap.size) (hb : Below W.heap.size W W') : PI n0 w ps v W' :=
  ⟨boxed_under h.bo hb, h.own.under hb, boxed_under h.b0 hb, boxed_under h.b1 hb, h.bs.imp fun _ x => boxed_under x hb, h.bp.imp fun _ x => boxed_under x hb, h.bz.imp fun _ x => boxed_under x hb, h.hb.trans (hb.mono hn)⟩
theorem kp3_under {bs bp bz : Nat} {W W' : World} (h1 : bs < W.heap.size) (h2 : bp < W.heap.size) (h3 : bz < W.heap.size) (hb : Below W.heap.size W W') : Kp3 bs bp bz W W' := by
  rintro k (rfl | rfl | rfl)
  · exact hb.block _ h1
  · exact hb.block _ h2
  · exact hb.block _ h3
/-- the slice grown by one, and stored -/
theorem PI.app {n0 : Nat} {w W w1 : World} {ps : List Pr} {p : Pr} {v v' : Value} {tmp : Obj} (h : PI n0 w ps v W) (hn : n0 ≤ W.heap.size)
    (hown' : w1.ownsRow n0 32 2 v' (ps.length + 1) (pcells (ps ++ [p]))) (hne : v' ≠ .slice none 0 0) (hgrow : (W.alloc tmp).grownBy w1 v.ownBlock) :
    PI n0 w (ps ++ [p]) v' (w1.setCell ⟨n0 + 1 + 1, 0, none⟩ v') ∧ KeepsOthers W (w1.setCell ⟨n0 + 1 + 1, 0, none⟩ v') ∧ Kp3 (n0 + 1 + 1 + 1) (n0 + 1 + 1 + 1 + 1) (n0 + 1 + 1 + 1 + 2) W (w1.setCell ⟨n0 + 1 + 1, 0, none⟩ v') := by
  obtain ⟨a1, a2, a3, a4, a5⟩ := h.bo.appended (by decide) h.own.1 hn (by omega) hown' hgrow
  have thru : ∀ {B : Nat} {t : TypeId} {u : Value}, Boxed W B t u → t ≠ 32 → B ≠ n0 + 1 + 1 → (w1.setCell ⟨n0 + 1 + 1, 0, none⟩ v').heap[B]? = W.heap[B]? := by
    intro B t u hB ht hb
    have := hB.not_row ht h.own.1
    rw [Below.heap_setCell _ _ _ _ hb, hgrow.block B (by have := hB.lt; simp; omega) this, al_old _ _ _ hB.lt]
  obtain ⟨us, hs⟩ := h.bs; obtain ⟨up, hp⟩ := h.bp; obtain ⟨uz, hz⟩ := h.bz
  refine ⟨⟨a2, ⟨by simpa using a3, by constructor <;> intro h <;> simp_all⟩, (thru h.b0 (by decide) (by omega)).trans h.b0, (thru h.b1 (by decide) (by omega)).trans h.b1, ⟨us, (thru hs (by decide) (by omega)).trans hs⟩, ⟨up, (thru hp (by decide) (by omega)).trans hp⟩, ⟨uz, (thru hz (by decide) (by omega)).trans hz⟩, h.hb.trans a5⟩, a4, ?_⟩
  rintro k (rfl | rfl | rfl)
  · exact thru hs (by decide) (by omega)
  · exact thru hp (by decide) (by omega)
  · exact thru hz (by decide) (by omega)
/-- what a round that fails leaves -/
def PX (n0 : Nat) (w W : World) : Prop := Boxed W n0 29 (.slice none 0 0) ∧ Boxed W (n0 + 1) 37 (.int .u16 10) ∧ Below n0 w W
theorem PI.bad {n0 : Nat} {w W : World} {ps : List Pr} {v : Value} (h : PI n0 w ps v W) : PX n0 w ((W.setCell ⟨n0, 0, none⟩ (.slice none 0 0)).setCell ⟨n0 + 1, 0, none⟩ (.int .u16 10)) :=
  ⟨boxed_set (h.b0.set _) (by omega), (boxed_set h.b1 (by omega)).set _, (h.hb.setCell (p := ⟨n0, 0, none⟩) (Nat.le_refl _) _).setCell (p := ⟨n0 + 1, 0, none⟩) (by show n0 ≤ n0 + 1; omega) _⟩
theorem PI.fail {n0 : Nat} {w W W2 : World} {ps : List Pr} {v : Value} {q : List (List UInt8)} (h2 : PI n0 w ps v W2) (h1 : Below W.heap.size W W2) (h3 : pairsR q = none) :
    KeepsOthers W ((W2.setCell ⟨n0, 0, none⟩ (.slice none 0 0)).setCell ⟨n0 + 1, 0, none⟩ (.int .u16 10)) ∧ (Code.ret = Code.ret ∧ pairsR q = none ∧ PX n0 w ((W2.setCell ⟨n0, 0, none⟩ (.slice none 0 0)).setCell ⟨n0 + 1, 0, none⟩ (.int .u16 10))) :=
  ⟨((others_of_below h1).trans (KeepsOthers.setCell _ _ _)).trans (KeepsOthers.setCell _ _ _), rfl, h3, h2.bad⟩
theorem PX.grown {n0 Bd : Nat} {w W W' : World} {row : Option Nat} (h : PX n0 w W) (hn : n0 ≤ w.heap.size) (hB : n0 ≤ Bd) (hg : W.grownBy W' row) (hr : ∀ r, row = some r → Bd ≤ r ∧ ∃ o : Obj, W.heap[r]? = some o ∧ o.isCells = false) : PX n0 w W' :=
  ⟨boxed_grown h.1 hg hr, boxed_grown h.2.1 hg hr, h.2.2.grown hg (Nat.le_trans hn h.2.2.size) (fun k e => Nat.le_trans hB (hr k e).1)⟩
/-- a pair by what Unescape answers -/
theorem pairR_of {x : List UInt8} {nm vl : List UInt8} {o1 o2 : Bool} (h1 : unescR (cutR 61 x).1 = (nm, o1)) (h2 : unescR (cutR 61 x).2.1 = (vl, o2)) : pairR x = if o1 = true ∧ o2 = true ∧ nm ≠ [] then some (nm, vl) else none := by
  unfold unescR at h1 h2
  unfold pairR
  cases ha : unR (cutR 61 x).1 with
  | none => rw [ha] at h1; cases h1; simp
  | some n =>
    rw [ha] at h1; cases h1
    cases hb : unR (cutR 61 x).2.1 with
    | none => rw [hb] at h2; cases h2; simp
    | some v =>
      rw [hb] at h2; cases h2
      by_cases hn : nm = [] <;> simp [hn]
theorem cell_two_new (w : World) (x y : Value) (t : TypeId) : ∀ j u, [x, y][j]? = some u → (w.alloc (.cells #[x, y] t)).cell? ((⟨w.heap.size, 0, none⟩ : Addr).add j) = some u := by
  intro j u hj
  match j, hj with
  | 0, hj => simp at hj; subst hj; simp [Addr.add]
  | 1, hj => simp at hj; subst hj; simp [Addr.add]

set_option maxHeartbeats 4000000 in
set_option maxRecDepth 100000 in
theorem parse_main (A : Option Addr) (c : Nat) (l : List UInt8) (w : World) (hA : ∀ X, Below w.heap.size w X → (convert 22 9 (.slice A l.length c)).run Tryd.prog X = .ok (.string ⟨l.toArray⟩) X) (h0 : l ≠ []) (h1 : ¬ 30 ≤ l.count 38) (hlen : l.length < 140737488355328) :
    Calls Tryd.prog 17 #[.slice A l.length c] w fun e w' => ∃ v, e = .returned (.tuple #[v, .int .u16 (parseR l).2]) ∧ OwnP w.heap.size w' v (parseR l).1 ∧ Below w.heap.size w w' := by
  obtain ⟨i0, hi, hz0, hz1, hz2⟩ := info_parts infoP
  have hb1 : Below w.heap.size w ((w.alloc (.cells #[.slice none 0 0] 29)).alloc (.cells #[.int .u16 0] 37)) := ((Below.refl _ w).alloc (Nat.le_refl _) _).alloc (by simp) _
  have hb2 := hb1.alloc (by simp; omega) (.cells #[.slice none 0 0] 29)
  have hcv := hA _ hb1
  have hcv2 := hA _ hb2
  have hpos : 0 < l.length := List.length_pos_iff.2 h0
  have e0 : ((l.length : Int) == 0) = false := beq_eq_false_iff_ne.2 (by omega)
  have e1 : decide ((30 : Int) ≤ (l.count 38 : Int)) = false := decide_eq_false (by omega)
  have hI : ∀ w, Calls Tryd.prog 28 #[.string ⟨l.toArray⟩, .string ⟨#[38]⟩] w fun e w' => e = .returned (.int .i64 (l.count 38 : Nat)) ∧ w' = w := fun w => Tryd.strings_Count_one ⟨l.toArray⟩ 38 w
  have hR : parseR l = match pairsR (splitR 38 l) with | some ps => (ps, 0) | none => ([], 10) := by unfold parseR; rw [if_neg h0, if_neg h1]
  have hN : (splitR 38 l).length ≤ 30 := by rw [splitR_len]; omega
  refine (callsIn_wide (n := 5)).1 ?_
  refine callsIn_of_wp_marks Tryd.func17 rfl trivial ?_ rfl
  simp only [Tryd.ntmps17, List.size_toArray, List.length_cons, List.length_nil, Nat.reduceAdd, Nat.reduceSub, Array.replicate_succ, Array.replicate_zero, List.push_toArray, List.append_toArray, List.nil_append, List.cons_append]
  gi_wp2_with (refine ⟨trivial, ?_⟩; first | (gi_at_call 28; refine (callsIn_wide.2 (hI _)).mono ?_; rintro e w1 ⟨rfl, rfl⟩) | (gi_at_call 29; refine (callsIn_wide.2 (splitSeq29 _ _ _)).mono ?_; rintro e w1 ⟨rfl, rfl⟩))
  refine rangeBox (bs := w.heap.size + 1 + 1 + 1) rfl (by omega) (gf := 52) (lb := #[.pointer (some ⟨w.heap.size + 1 + 1 + 1 + 1, 0, none⟩), .pointer (some ⟨w.heap.size + 1 + 1 + 1, 0, none⟩), .pointer (some ⟨w.heap.size + 1 + 1 + 1 + 2, 0, none⟩)]) rfl trivial (enters_of Tryd.func52 (by kernel_rfl) rfl)
    (encs := fun x : List UInt8 => #[Value.string ⟨x.toArray⟩]) (Kp := Kp3 (w.heap.size + 1 + 1 + 1) (w.heap.size + 1 + 1 + 1 + 1) (w.heap.size + 1 + 1 + 1 + 2)) (S := fun ys => ys = splitR 38 l) (Sp := fun pre => pre <+: splitR 38 l) (R := fun pre x => pre ++ [x] <+: splitR 38 l)
    (by simp <;> omega) ?seq Kp3.t ?kb (fun _ => rfl)
    (fun pre W => ∃ ps v, pairsR pre = some ps ∧ PI w.heap.size w ps v W)
    (fun c pre W => c = .ret ∧ pairsR pre = none ∧ PX w.heap.size w W)
    (fun s X Y row hs hg hr => by obtain ⟨ps, v, h1, h2⟩ := hs; exact ⟨ps, v, h1, h2.grown (Nat.le_refl _) (by simp; omega) hg hr⟩)
    (fun c s X Y row hs hg hr => ⟨hs.1, hs.2.1, hs.2.2.grown (Nat.le_refl _) (by simp; omega) hg hr⟩)
    (fun s X u hs => by obtain ⟨ps, v, h1, h2⟩ := hs; exact ⟨ps, v, h1, h2.set u⟩)
    ?start
    (fun x => { tmps := #[.slice A l.length c, undef, .pointer (some ⟨w.heap.size, 0, none⟩), .pointer (some ⟨w.heap.size + 1, 0, none⟩), .pointer (some ⟨w.heap.size + 1 + 1, 0, none⟩), .string ⟨x.toArray⟩, undef, undef, undef, undef, undef,
        undef, undef, .slice A l.length c, .int .i64 l.length, .bool false, .slice A l.length c, .string ⟨l.toArray⟩, .int .i64 (l.count 38 : Nat), .bool false, .slice A l.length c, .string ⟨l.toArray⟩,
        .func (.func 52) #[] #[.pointer (some ⟨w.heap.size + 1 + 1 + 1 + 1, 0, none⟩), .pointer (some ⟨w.heap.size + 1 + 1 + 1, 0, none⟩), .pointer (some ⟨w.heap.size + 1 + 1 + 1 + 2, 0, none⟩)],
        .string ⟨x.toArray⟩, undef, undef, undef, undef, undef, undef, undef, undef, undef, undef, undef, undef, undef, undef, undef, undef, undef, undef, undef, undef, undef, undef, undef, undef, undef, undef, undef, undef, undef, undef, undef, undef, undef], defers := [] }) ?assign ?body ?done ?stop
  case seq =>
    intro l' J Jx W hW hJ hY h0'
    have bs := ((Boxed.new ((((w.alloc (.cells #[.slice none 0 0] 29)).alloc (.cells #[.int .u16 0] 37)).alloc (.cells #[.slice none 0 0] 29))) 9 (.string ⟨l.toArray⟩)).alloc (.cells #[.string ⟨#[38]⟩] 9)).alloc (.cells #[.int .i64 0] 3)
    have bp := (Boxed.new (((((w.alloc (.cells #[.slice none 0 0] 29)).alloc (.cells #[.int .u16 0] 37)).alloc (.cells #[.slice none 0 0] 29)).alloc (.cells #[.string ⟨l.toArray⟩] 9))) 9 (.string ⟨#[38]⟩)).alloc (.cells #[.int .i64 0] 3)
    have bz := Boxed.new ((((((w.alloc (.cells #[.slice none 0 0] 29)).alloc (.cells #[.int .u16 0] 37)).alloc (.cells #[.slice none 0 0] 29)).alloc (.cells #[.string ⟨l.toArray⟩] 9)).alloc (.cells #[.string ⟨#[38]⟩] 9))) 3 (.int .i64 0)
    simp only [World.size_alloc] at bs bp bz
    exact split52 4 (by omega) l' _ _ _ (by omega) (by omega) l (by omega) J Jx hJ hY W (boxed_under bs hW) (boxed_under bp hW) (boxed_under bz hW) h0'
  case kb =>
    intro W l' o o' hl' hW ho _
    simp at hl'
    rintro k hk
    exact World.putObj_heap_other (by omega)
  case start =>
    refine ⟨[], .slice none 0 0, rfl, ?_⟩
    have b0 := (((((Boxed.new w 29 (.slice none 0 0)).alloc (.cells #[.int .u16 0] 37)).alloc (.cells #[.slice none 0 0] 29)).alloc (.cells #[.string ⟨l.toArray⟩] 9)).alloc (.cells #[.string ⟨#[38]⟩] 9)).alloc (.cells #[.int .i64 0] 3)
    have b1 := ((((Boxed.new (w.alloc (.cells #[.slice none 0 0] 29)) 37 (.int .u16 0)).alloc (.cells #[.slice none 0 0] 29)).alloc (.cells #[.string ⟨l.toArray⟩] 9)).alloc (.cells #[.string ⟨#[38]⟩] 9)).alloc (.cells #[.int .i64 0] 3)
    have bo := (((Boxed.new ((w.alloc (.cells #[.slice none 0 0] 29)).alloc (.cells #[.int .u16 0] 37)) 29 (.slice none 0 0)).alloc (.cells #[.string ⟨l.toArray⟩] 9)).alloc (.cells #[.string ⟨#[38]⟩] 9)).alloc (.cells #[.int .i64 0] 3)
    have bs := ((Boxed.new ((((w.alloc (.cells #[.slice none 0 0] 29)).alloc (.cells #[.int .u16 0] 37)).alloc (.cells #[.slice none 0 0] 29))) 9 (.string ⟨l.toArray⟩)).alloc (.cells #[.string ⟨#[38]⟩] 9)).alloc (.cells #[.int .i64 0] 3)
    have bp := (Boxed.new (((((w.alloc (.cells #[.slice none 0 0] 29)).alloc (.cells #[.int .u16 0] 37)).alloc (.cells #[.slice none 0 0] 29)).alloc (.cells #[.string ⟨l.toArray⟩] 9))) 9 (.string ⟨#[38]⟩)).alloc (.cells #[.int .i64 0] 3)
    have bz := Boxed.new ((((((w.alloc (.cells #[.slice none 0 0] 29)).alloc (.cells #[.int .u16 0] 37)).alloc (.cells #[.slice none 0 0] 29)).alloc (.cells #[.string ⟨l.toArray⟩] 9)).alloc (.cells #[.string ⟨#[38]⟩] 9))) 3 (.int .i64 0)
    simp only [World.size_alloc] at b1 bo bs bp bz
    exact ⟨bo, OwnP.nil _ _, b0, b1, ⟨_, bs⟩, ⟨_, bp⟩, ⟨_, bz⟩, ((hb2.alloc (by simp; omega) _).alloc (by simp; omega) _).alloc (by simp; omega) _⟩
  case assign =>
    intro l' x W K hK
    gi_wp2
    exact hK
  case body =>
    rintro l' pre x W ⟨ps, v, hps, hP⟩ hx
    have hn : w.heap.size ≤ W.heap.size := hP.hb.size
    have hxl : x.length ≤ l.length := splitR_mem 38 l x (hx.subset (by simp))
    have hcl := cutR_len 61 x
    obtain ⟨nm, o1, hu1⟩ : ∃ nm o1, unescR (cutR 61 x).1 = (nm, o1) := ⟨_, _, rfl⟩
    obtain ⟨vl, o2, hu2⟩ : ∃ vl o2, unescR (cutR 61 x).2.1 = (vl, o2) := ⟨_, _, rfl⟩
    have hpr := pairR_of hu1 hu2
    have hsn := pairsR_snoc pre x
    rw [hps, hpr] at hsn
    obtain ⟨f, bk, fl, hcut⟩ : ∃ f bk fl, cutR 61 x = (f, bk, fl) := ⟨_, _, _, rfl⟩
    rw [hcut] at hu1 hu2 hcl
    have cC : ∀ w, Calls Tryd.prog 30 #[.string ⟨x.toArray⟩, .string ⟨#[61]⟩] w fun e w' => e = .returned (.tuple #[.string ⟨f.toArray⟩, .string ⟨bk.toArray⟩, .bool fl]) ∧ ∃ n, w' = w.drewN n := fun w => by
      have := cut 61 x w (by omega)
      rwa [hcut] at this
    have cU1 : ∀ w, Calls Tryd.prog 18 #[.string ⟨f.toArray⟩] w fun e w' => e = .returned (.tuple #[.string ⟨nm.toArray⟩, .bool o1]) ∧ Below w.heap.size w w' := fun w => by
      have := unescape f w (by have := hcl.1; simp at this; omega)
      rwa [hu1] at this
    have cU2 : ∀ w, Calls Tryd.prog 18 #[.string ⟨bk.toArray⟩] w fun e w' => e = .returned (.tuple #[.string ⟨vl.toArray⟩, .bool o2]) ∧ Below w.heap.size w w' := fun w => by
      have := unescape bk w (by have := hcl.2; simp at this; omega)
      rwa [hu2] at this
    have hklen : ps.length + 1 ≤ 30 := by
      have h1 := pairsR_len hps
      have h2 := hx.length_le
      simp at h2; omega
    clear hpr hu1 hu2 hcut hcl hxl hR hN e0 e1 hI hcv hcv2 hb1 hb2 hA h0 h1 hpos hlen
    by_cases hg : o1 = true ∧ o2 = true ∧ nm ≠ []
    · obtain ⟨rfl, rfl, hne⟩ := hg
      obtain ⟨y, ns, rfl⟩ : ∃ y ns, nm = y :: ns := by cases nm with | nil => exact absurd rfl hne | cons y ns => exact ⟨_, _, rfl⟩
      have hsome := Aside0.mk (show pairsR (pre ++ [x]) = some (ps ++ [(y :: ns, vl)]) by rw [hsn, if_pos ⟨rfl, rfl, hne⟩])
      clear hsn hps hne hx
      gi_wp2_with (first | (refine ⟨trivial, ?_⟩; first
        | (gi_at_call 30; refine (CallsIn.inRound l' (callsIn_wide.2 (cC _))).mono ?_; rintro e w1 ⟨rfl, nd, rfl⟩)
        | (gi_at_call 18; first
            | (refine (CallsIn.inRound l' (callsIn_wide.2 (cU2 W1))).mono ?_; rintro e W2 ⟨rfl, hb2⟩; have hBW : Below W.heap.size W W2 := hb1.trans (hb2.mono hb1.size); have hP2 := Aside0.mk (hP.under hn hBW); have f0 := hP2.out.b0.frozen; have f1 := hP2.out.b1.frozen; have f2 := hP2.out.bo.frozen; have g0 := hP2.out.b0.cell; have g1 := hP2.out.b1.cell; have g2 := hP2.out.bo.cell)
            | (refine (CallsIn.inRound l' (callsIn_wide.2 (cU1 (W.drewN nd)))).mono ?_; rintro e W1 ⟨rfl, hb1⟩; replace hb1 : Below W.heap.size W W1 := (pw_below_drewN (Below.refl W.heap.size W) nd).trans hb1))) | (gi_at_builtin; refine wpListIn_append_own _ rfl _ _ 29 rfl w.heap.size 32 i0 (.agg #[.string ⟨#[]⟩, .string ⟨#[]⟩]) 2 32 Tryd.underlying29 hi hz0 hz1 hz2 rfl (by decide) _ _ _ rfl (hP2.out.own.1.alloc _) ⟨W2.heap.size, 0, none⟩ 1 1 [.string ⟨(y :: ns).toArray⟩, .string ⟨vl.toArray⟩] rfl rfl (cell_two_new _ _ _ _) (by simp [Value.oneCell']) (by unfold maxLen; omega) (by omega) (by have := hP2.out.hb.size; simp; omega) ?_; intro v' w1 hown' hgrow _; obtain ⟨g', cap', rfl⟩ := ownsRow_succ hown'; obtain ⟨hP3, hk3, hq3⟩ := hP2.out.app (p := (y :: ns, vl)) hP2.out.hb.size (by rw [pcells_app]; exact hown') (by simp) hgrow; have hcA := Aside0.mk (And.intro hP3 (And.intro hk3 hq3)); clear hP3 hk3 hq3; have g3 := (hP2.out.bo.alloc (.cells #[.string ⟨(y :: ns).toArray⟩, .string ⟨vl.toArray⟩] 32)).kept hgrow (hP2.out.bo.not_row (by decide) hP2.out.own.1); have g4 := g3.cell; have g5 := g3.frozen))
      obtain ⟨hP3, hk3, hq3⟩ := hcA.out
      exact ⟨(others_of_below hBW).trans hk3, (kp3_under hP.bs.choose_spec.lt hP.bp.choose_spec.lt hP.bz.choose_spec.lt hBW).t hq3, ⟨_, _, hsome.out, hP3⟩⟩
    · have hnone := Aside0.mk (show pairsR (pre ++ [x]) = none by rw [hsn, if_neg hg])
      clear hsn hps hklen hx
      cases o1 with
      | false =>
        clear hg
        gi_wp2_with (refine ⟨trivial, ?_⟩; first
        | (gi_at_call 30; refine (CallsIn.inRound l' (callsIn_wide.2 (cC _))).mono ?_; rintro e w1 ⟨rfl, nd, rfl⟩)
        | (gi_at_call 18; first
            | (refine (CallsIn.inRound l' (callsIn_wide.2 (cU2 W1))).mono ?_; rintro e W2 ⟨rfl, hb2⟩; have hBW : Below W.heap.size W W2 := hb1.trans (hb2.mono hb1.size); have hP2 := Aside0.mk (hP.under hn hBW); have f0 := hP2.out.b0.frozen; have f1 := hP2.out.b1.frozen; have f2 := hP2.out.bo.frozen; have g0 := hP2.out.b0.cell; have g1 := hP2.out.b1.cell; have g2 := hP2.out.bo.cell)
            | (refine (CallsIn.inRound l' (callsIn_wide.2 (cU1 (W.drewN nd)))).mono ?_; rintro e W1 ⟨rfl, hb1⟩; replace hb1 : Below W.heap.size W W1 := (pw_below_drewN (Below.refl W.heap.size W) nd).trans hb1)))
        exact hP2.out.fail hBW hnone.out
      | true =>
        cases o2 with
        | false =>
          clear hg
          gi_wp2_with (refine ⟨trivial, ?_⟩; first
        | (gi_at_call 30; refine (CallsIn.inRound l' (callsIn_wide.2 (cC _))).mono ?_; rintro e w1 ⟨rfl, nd, rfl⟩)
        | (gi_at_call 18; first
            | (refine (CallsIn.inRound l' (callsIn_wide.2 (cU2 W1))).mono ?_; rintro e W2 ⟨rfl, hb2⟩; have hBW : Below W.heap.size W W2 := hb1.trans (hb2.mono hb1.size); have hP2 := Aside0.mk (hP.under hn hBW); have f0 := hP2.out.b0.frozen; have f1 := hP2.out.b1.frozen; have f2 := hP2.out.bo.frozen; have g0 := hP2.out.b0.cell; have g1 := hP2.out.b1.cell; have g2 := hP2.out.bo.cell)
            | (refine (CallsIn.inRound l' (callsIn_wide.2 (cU1 (W.drewN nd)))).mono ?_; rintro e W1 ⟨rfl, hb1⟩; replace hb1 : Below W.heap.size W W1 := (pw_below_drewN (Below.refl W.heap.size W) nd).trans hb1)))
          exact hP2.out.fail hBW hnone.out
        | true =>
          obtain rfl : nm = [] := by
            by_cases h : nm = []
            · exact h
            · exact absurd ⟨rfl, rfl, h⟩ hg
          clear hg
          gi_wp2_with (refine ⟨trivial, ?_⟩; first
        | (gi_at_call 30; refine (CallsIn.inRound l' (callsIn_wide.2 (cC _))).mono ?_; rintro e w1 ⟨rfl, nd, rfl⟩)
        | (gi_at_call 18; first
            | (refine (CallsIn.inRound l' (callsIn_wide.2 (cU2 W1))).mono ?_; rintro e W2 ⟨rfl, hb2⟩; have hBW : Below W.heap.size W W2 := hb1.trans (hb2.mono hb1.size); have hP2 := Aside0.mk (hP.under hn hBW); have f0 := hP2.out.b0.frozen; have f1 := hP2.out.b1.frozen; have f2 := hP2.out.bo.frozen; have g0 := hP2.out.b0.cell; have g1 := hP2.out.b1.cell; have g2 := hP2.out.bo.cell)
            | (refine (CallsIn.inRound l' (callsIn_wide.2 (cU1 (W.drewN nd)))).mono ?_; rintro e W1 ⟨rfl, hb1⟩; replace hb1 : Below W.heap.size W W1 := (pw_below_drewN (Below.refl W.heap.size W) nd).trans hb1)))
          exact hP2.out.fail hBW hnone.out
  case done =>
    rintro D ys W hD rfl ⟨ps, v, hps, hP⟩ hK
    have f0 := hP.b0.frozen; have f1 := hP.b1.frozen; have g0 := hP.b0.cell; have g1 := hP.b1.cell; have g2 := hP.bo.cell
    have b0 : Boxed ((W.setCell ⟨w.heap.size, 0, none⟩ v).setCell ⟨w.heap.size + 1, 0, none⟩ (.int .u16 0)) w.heap.size 29 v := boxed_set (hP.b0.set v) (by omega)
    have b1 : Boxed ((W.setCell ⟨w.heap.size, 0, none⟩ v).setCell ⟨w.heap.size + 1, 0, none⟩ (.int .u16 0)) (w.heap.size + 1) 37 (.int .u16 0) := (boxed_set hP.b1 (by omega)).set _
    have bo : OwnP w.heap.size ((W.setCell ⟨w.heap.size, 0, none⟩ v).setCell ⟨w.heap.size + 1, 0, none⟩ (.int .u16 0)) v ps := (hP.own.set hP.b0 (by decide)).set (boxed_set hP.b1 (by omega)) (by decide)
    have hbb : Below w.heap.size w ((W.setCell ⟨w.heap.size, 0, none⟩ v).setCell ⟨w.heap.size + 1, 0, none⟩ (.int .u16 0)) := (hP.hb.setCell (p := ⟨w.heap.size, 0, none⟩) (Nat.le_refl _) _).setCell (p := ⟨w.heap.size + 1, 0, none⟩) (by show w.heap.size ≤ w.heap.size + 1; omega) _
    have hK' := ((KeepsOthers.setCell W ⟨w.heap.size, 0, none⟩ v).trans (KeepsOthers.setCell _ ⟨w.heap.size + 1, 0, none⟩ (.int .u16 0))).same D _ hK rfl
    obtain ⟨ao, n', cap, rfl⟩ : ∃ ao n' cap, v = .slice ao n' cap := by
      rcases hP.own.1.2 with ⟨hv, _⟩ | ⟨g, cap, cur, hv, _⟩
      · exact ⟨_, _, _, hv⟩
      · exact ⟨_, _, _, hv⟩
    have hbs := Aside0.mk (And.intro b0 (And.intro b1 (And.intro bo (And.intro hbb hK'))))
    clear b0 b1 bo hbb hK'
    gi_wp2
    obtain ⟨b0, b1, bo, hbb, hK'⟩ := hbs.out
    refine ⟨by simp, .inl ⟨_, _, rfl, run_takeDeferred hK', ?_⟩⟩
    have hgr := grownBy_putObj' ((W.setCell ⟨w.heap.size, 0, none⟩ (.slice ao n' cap)).setCell ⟨w.heap.size + 1, 0, none⟩ (.int .u16 0)) D (.deferred none)
    have hrr : ∀ r, some D = some r → w.heap.size ≤ r ∧ ∃ o : Obj, ((W.setCell ⟨w.heap.size, 0, none⟩ (.slice ao n' cap)).setCell ⟨w.heap.size + 1, 0, none⟩ (.int .u16 0)).heap[r]? = some o ∧ o.isCells = false := fun r e => by cases e; exact ⟨by simp at hD; omega, _, hK', rfl⟩
    refine ⟨_, res_cells _ _ w.heap.size (w.heap.size + 1) _ _ rfl rfl (boxed_grown b0 hgr hrr).cell (boxed_grown b1 hgr hrr).cell, .slice ao n' cap, ?_, ?_, hbb.grown hgr (Nat.le_trans (Nat.le_refl _) hbb.size) (fun k e => (hrr k e).1)⟩
    · rw [hR, hps]
    · rw [hR, hps]; exact bo.grown hgr hrr
  case stop =>
    rintro D c' pre W hD hpre ⟨rfl, hn, hX⟩ hK
    gi_wp2
    refine ⟨by simp, .inl ⟨_, _, rfl, run_takeDeferred hK, ?_⟩⟩
    have hX2 : PX w.heap.size w (W.putObj D (.deferred none)) := hX.grown (Bd := w.heap.size) (Nat.le_refl _) (Nat.le_refl _) (grownBy_putObj' W D _) (fun r e => by cases e; exact ⟨by simp at hD; omega, _, hK, rfl⟩)
    refine ⟨_, res_cells _ _ w.heap.size (w.heap.size + 1) _ _ rfl rfl hX2.1.cell hX2.2.1.cell, .slice none 0 0, ?_, ?_, hX2.2.2⟩
    · rw [hR, pairsR_pre hpre hn]
    · rw [hR, pairsR_pre hpre hn]; exact OwnP.nil _ _
/-- Parse of any bytes. -/
theorem parse (A : Option Addr) (c : Nat) (l : List UInt8) (w : World) (hA : ∀ X, Below w.heap.size w X → (convert 22 9 (.slice A l.length c)).run Tryd.prog X = .ok (.string ⟨l.toArray⟩) X) (hlen : l.length < 140737488355328) :
    Calls Tryd.prog 17 #[.slice A l.length c] w fun e w' => ∃ v, e = .returned (.tuple #[v, .int .u16 (parseR l).2]) ∧ OwnP w.heap.size w' v (parseR l).1 ∧ Below w.heap.size w w' := by
  by_cases h0 : l = []
  · subst h0
    exact parse_nil A c w
  · by_cases h1 : 30 ≤ l.count 38
    · have hR : parseR l = ([], 3) := by unfold parseR; rw [if_neg h0, if_pos h1]
      rw [hR]
      exact parse_long A c l w hA h0 h1
    · exact parse_main A c l w hA h0 h1 hlen
end Go.Proofs.YtjbghpkdehikfaaDoor.Hand
