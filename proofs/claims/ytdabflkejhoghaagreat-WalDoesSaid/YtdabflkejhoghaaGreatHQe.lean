/- All: a loop over an iterator over frames. -/
import Derived.Below
import Derived.Deep.Draws
import Derived.Deep.AppendLies
import Derived.Maps.AppendAt
import Derived.OwnWalk
import Derived.Laws.BytesArg
import Derived.Laws.MakeOwn
import Derived.Laws.OwnMore
import Derived.Deep.OwnRows
import Derived.Tactics
import Derived.Lib.ConvBytes
import Derived.Laws.Slices
import Derived.WalkKit
import Derived.KernelRfl
import Derived.RowKit3
import Derived.Deep.LoopGhost
import Derived.Deep.QuietTactic
import Derived.BigQuiet
import Derived.WideLaws
import Derived.Deep.DeepCutAuto
import Derived.Deep.CutBlock
import Derived.Deep.RegionHeld3
import Derived.Laws.Rows
import Derived.Lib.AppendStr
import Derived.ArgAppend
import Derived.Laws.IdiomCopy
import Derived.OrdersHeld
import Derived.Laws.BitsLemmas
import Derived.RowKit
import Derived.Outline
import Derived.Maps.Own
import Derived.Maps.OwnOps
import Derived.Maps.OwnSet
import Derived.Maps.Views
import Derived.Maps.RangeWalk
import Derived.Maps.Ext
import Derived.RangeFuncOwn
import Derived.OneCell
import Derived.Deep.DeepMust
import Derived.Lib.Hide
import Derived.StillTailTactics
import Derived.Laws.AppendOwnNone
import Derived.WalkMore
import Derived.Lib.SlBytesConst
import Derived.WalkLawsBesides
import Derived.Laws.BitsAllLaws
import Derived.RangeFuncFrom
import Derived.RangeFuncKeeps
import Derived.RangeFuncBox
import Derived.RangeFuncCalls
import Derived.RangeFuncLeaves
import Derived.LoopIn
import Derived.LoopNIn
import Derived.OwnWalkIn
import Derived.Shelf.Abstract
import Derived.TacticsInMore
import Derived.Laws.IdiomStrings
import Derived.Test.YtdabflkejhoghaaGreatHQd
namespace Go.Proofs.YtdabflkejhoghaaGreat.Hand
open Go Go.RowKit
set_option linter.unusedVariables false
variable {F : Fence} {n : Nat} {P : Program}
def Kept (bs : Nat) (X X' : World) : Prop := Kp [bs] X.heap.size X X'
/-- The kit's law of a range over a function (its proof is that law's, turned): here the iterator keeps a state of its own in a box bs, which the caller's invariant lets it write, and makes memory; what comes is told of the world. -/
theorem rangeMem {α : Type} {g : Operand} {ps : Array Tmp} {assign body : Code} {Q : Exit → Act → World → Prop} {a : Act} {w : World}
    (hro : F.round = none) (h1 : 1 ≤ n) {gf : Nat} {lb : Array Value} (hg : a.eval g = .func (.func gf) #[] lb) (hFg : F.fn gf) (eg : ∀ args w, (callFunc gf args).run P w = .ok (.enter gf args) w)
    {encs : α → Array Value} {Kp : World → World → Prop} {S Sp : List α → Prop} {R : List α → α → World → Prop} {bs : Nat} (hbs : bs < w.heap.size)
    (hseq : ∀ (l : Nat) (J Jx : List α → World → Prop) (W : World), Below w.heap.size w W → (∀ s X X', J s X → Kept bs X X' → J s X') →
      (∀ pre x W1, J pre W1 → R pre x W1 → YieldAt F (n - 1 - 1) P l (encs x) W1 fun e W' =>
        (e = .returned (.bool true) ∧ J (pre ++ [x]) W' ∧ Kp W1 W') ∨ (e = .returned (.bool false) ∧ Jx (pre ++ [x]) W')) → J [] W →
      CallsIn F (n - 1) P gf (#[.func (.yield l) #[] #[]] ++ lb) W fun e W' => (∃ v, e = .returned v) ∧ ((∃ xs, S xs ∧ J xs W') ∨ (∃ pre, Sp pre ∧ Jx pre W')))
    (hKt : ∀ {A B C : World}, Kp A B → Kp B C → Kp A C) (hKb : ∀ (W : World) (l : Nat) (o o' : Obj), w.heap.size ≤ l → W.heap[l]? = some o → o.isCells = false → o.isWalk = false → Kp W (W.putObj l o')) (hps : ∀ x, (encs x).size = ps.size)
    (I : List α → World → Prop) (Ix : Code → List α → World → Prop) (hI : OwnFrom w.heap.size I) (hIx : ∀ c, OwnFrom w.heap.size (Ix c)) (hIb : ∀ s X X', I s X → Kept bs X X' → I s X')
    (hRb : ∀ pre x W l o o', w.heap.size ≤ l → R pre x W → W.heap[l]? = some o → o.isCells = false → R pre x (W.putObj l o')) (h0 : I [] w) (a₁ : α → Act)
    (hassign : ∀ (l : Nat) (x : α) (W : World) (K : Act → World → Prop), K (a₁ x) W →
      assign.wpIn (F.inRound l) (n - 1 - 1) P (Exit.then K (fun _ _ _ => False)) { tmps := (ps.zip (encs x)).foldl (fun t (p, v) => t.setIfInBounds p v) a.tmps, defers := [] } W)
    (hbody : ∀ (l : Nat) (pre : List α) (x : α) (W : World), I pre W → R pre x W → body.wpIn (F.inRound l) (n - 1 - 1) P (ownPostK Kp I Ix (pre ++ [x]) W) (a₁ x) W)
    (hdone : ∀ (D : Nat) (xs : List α) (W : World), w.heap.size ≤ D → S xs → I xs W → W.heap[D]? = some (.deferred (some [])) → Q .normal { a with defers := { target := .collected D, args := #[] } :: a.defers } W)
    (hstop : ∀ (D : Nat) (c : Code) (pre : List α) (W : World), w.heap.size ≤ D → Sp pre → Ix c pre W → W.heap[D]? = some (.deferred (some [])) → c.wpIn F n P Q { a with defers := { target := .collected D, args := #[] } :: a.defers } W) :
    (Code.rangeFunc g ps assign body).wpIn F n P Q a w := by
  refine wpIn_rangeFunc ?_
  intro fn hfn
  rw [hro]
  obtain ⟨rec, hrec⟩ : ∃ rec : LoopState → Option Code → Loop, rec = fun st pe => { state := st, pending := pe, fn, tmps := a.tmps, params := ps, assign, body, defers := w.heap.size } := ⟨_, rfl⟩
  obtain ⟨W1, hW1⟩ : ∃ W1, (w.alloc (.deferred (some []))).alloc (.loop (rec .ready none)) = W1 := ⟨_, rfl⟩
  have hL1 : W1.heap[w.heap.size + 1]? = some (.loop (rec .ready none)) := by
    rw [← hW1]; have := World.alloc_heap_new (w.alloc (.deferred (some []))) (.loop (rec .ready none)); rwa [World.size_alloc] at this
  have hK1 : W1.heap[w.heap.size]? = some (.deferred (some [])) := by
    rw [← hW1]; exact (Below.heap_alloc _ _ _ (by simp)).trans (World.alloc_heap_new w _)
  have hI1 : I [] W1 := by rw [← hW1]; exact hI.alloc _ (hI.alloc _ h0)
  have hb1 : Below w.heap.size w W1 := by
    rw [← hW1]; exact (((Below.refl _ w).alloc (Nat.le_refl _) _).alloc (by simp) _)
  refine ⟨w.heap.size + 1, [{ target := .collected w.heap.size, args := #[] }], W1, { target := .fn (.func gf) lb, args := #[.func (.yield (w.heap.size + 1)) #[] #[]] }, W1, gf,
    #[.func (.yield (w.heap.size + 1)) #[] #[]] ++ lb, W1, ?_, ?_, ?_, ?_, fun _ => h1, ?_⟩
  · rw [← hW1, hrec]; exact run_enterLoop_outer _ _ _ _ _
  · simp only [resolve, hg]
    simp [go_sem]
  · intro f' hf'; simp [Target.leads] at hf'; subst hf'; exact hFg
  · simp [invoke, go_sem, eg]
  · -- THE ITERATOR's CONTRACT, AT THE CALLER's INVARIANT WITH THE TWO FACTS OF BOOK-KEEPING BESIDE IT
    refine (hseq (w.heap.size + 1)
      (fun pre W => I pre W ∧ W.heap[w.heap.size + 1]? = some (.loop (rec .ready none)) ∧ W.heap[w.heap.size]? = some (.deferred (some [])))
      (fun pre W => ∃ c, Ix c pre W ∧ W.heap[w.heap.size + 1]? = some (.loop (rec .done (some c))) ∧ W.heap[w.heap.size]? = some (.deferred (some [])))
      W1 hb1
      (fun s A A' hs hk => ⟨hIb s A A' hs.1 hk, (Hand.Kp.block hk _ (Array.getElem?_eq_some_iff.1 hs.2.1).1 (by show w.heap.size + 1 ∉ [bs]; simp; omega)).trans hs.2.1, (Hand.Kp.block hk _ (Array.getElem?_eq_some_iff.1 hs.2.2).1 (by show w.heap.size ∉ [bs]; simp; omega)).trans hs.2.2⟩)
      ?_ ⟨hI1, hL1, hK1⟩).mono ?_
    · -- ONE ROUND
      rintro pre x W ⟨hi, hl, hk⟩ hlen
      have hlt : w.heap.size + 1 < W.heap.size := (Array.getElem?_eq_some_iff.1 hl).1
      have hy := run_yield (P := P) (args := encs x) hl (by rw [hrec]; exact hps x)
      rw [hrec] at hy
      refine ⟨fn, _, assign, body, hy, roundIn_of_wpIn hfn (hassign _ x W _ ⟨_, run_beginRound hl (by rw [hrec]), ?_⟩)⟩
      have hl2 : (W.putObj (w.heap.size + 1) (.loop { rec .ready none with state := .busy })).heap[w.heap.size + 1]? = some (.loop { rec .ready none with state := .busy }) := World.putObj_heap_same hlt
      have hk2 : (W.putObj (w.heap.size + 1) (.loop { rec .ready none with state := .busy })).heap[w.heap.size]? = some (.deferred (some [])) := (World.putObj_heap_other (by omega)).trans hk
      have hw2 : Kp W (W.putObj (w.heap.size + 1) (.loop { rec .ready none with state := .busy })) := hKb _ _ _ _ (by omega) hl rfl rfl
      refine wpIn_mono (hbody _ pre x _ (hI.putObj _ hi (by omega) hl rfl) (hRb _ _ _ _ _ _ (by omega) hlen hl rfl)) ?_
      have fin : ∀ (jump : Option Code) (W3 : World), KeepsOthers (W.putObj (w.heap.size + 1) (.loop { rec .ready none with state := .busy })) W3 →
          (Instr.endRound (w.heap.size + 1) jump).run P W3 = .ok (.bool jump.isNone) (W3.putObj (w.heap.size + 1) (.loop (rec (if jump.isNone then .ready else .done) jump))) ∧
          W3.heap[w.heap.size + 1]? = some (.loop { rec .ready none with state := .busy }) ∧
          (W3.putObj (w.heap.size + 1) (.loop (rec (if jump.isNone then .ready else .done) jump))).heap[w.heap.size + 1]? = some (.loop (rec (if jump.isNone then .ready else .done) jump)) ∧
          (W3.putObj (w.heap.size + 1) (.loop (rec (if jump.isNone then .ready else .done) jump))).heap[w.heap.size]? = some (.deferred (some [])) := fun jump W3 hk3 => by
        have hl3 := hk3.same _ _ hl2 rfl
        have := run_endRound (P := P) jump hl3
        rw [hrec] at this ⊢
        exact ⟨this, by rw [hrec] at hl3; exact hl3, World.putObj_heap_same (Array.getElem?_eq_some_iff.1 hl3).1, (World.putObj_heap_other (by omega)).trans (hk3.same _ _ hk2 rfl)⟩
      rintro e a3 W3 hp
      cases e with
      | normal =>
        obtain ⟨hk3, hkp3, hi3⟩ := hp
        obtain ⟨hr, hl3, hl4, hk4⟩ := fin none W3 hk3
        exact ⟨_, _, hr, .inl ⟨rfl, ⟨hI.putObj _ hi3 (by omega) hl3 rfl, hl4, hk4⟩, hKt (hKt hw2 hkp3) (hKb _ _ _ _ (by omega) hl3 rfl rfl)⟩⟩
      | ret =>
        obtain ⟨hk3, hi3⟩ := hp
        obtain ⟨hr, hl3, hl4, hk4⟩ := fin (some .ret) W3 hk3
        exact ⟨_, _, hr, .inr ⟨rfl, .ret, (hIx _).putObj _ hi3 (by omega) hl3 rfl, hl4, hk4⟩⟩
      | exit id =>
        obtain ⟨hk3, hi3⟩ := hp
        obtain ⟨hr, hl3, hl4, hk4⟩ := fin (some (.exit id)) W3 hk3
        exact ⟨_, _, hr, .inr ⟨rfl, .exit id, (hIx _).putObj _ hi3 (by omega) hl3 rfl, hl4, hk4⟩⟩
      | goto t =>
        obtain ⟨hk3, hi3⟩ := hp
        obtain ⟨hr, hl3, hl4, hk4⟩ := fin (some (.goto t)) W3 hk3
        exact ⟨_, _, hr, .inr ⟨rfl, .goto t, (hIx _).putObj _ hi3 (by omega) hl3 rfl, hl4, hk4⟩⟩
      | panic ch => exact hp.elim
      | outgrown => exact hp.elim
    · -- BEHIND THE ITERATOR
      rintro e W2 ⟨⟨v, rfl⟩, (⟨xs, hS, hi, hl, hk⟩ | ⟨pre, hSp, c, hi, hl, hk⟩)⟩
      · exact ⟨none, _, by have := run_endLoop (P := P) hl (by rw [hrec]; simp); rw [hrec] at this; exact this, hdone _ xs _ (Nat.le_refl _) hS (hI.putObj _ hi (by omega) hl rfl) ((World.putObj_heap_other (by omega)).trans hk)⟩
      · exact ⟨some c, _, by have := run_endLoop (P := P) hl (by rw [hrec]; simp); rw [hrec] at this; exact this, hstop _ c pre _ (Nat.le_refl _) hSp ((hIx c).putObj _ hi (by omega) hl rfl) ((World.putObj_heap_other (by omega)).trans hk)⟩


end Go.Proofs.YtdabflkejhoghaaGreat.Hand
namespace Go.Proofs.YtdabflkejhoghaaGreat.Hand
open Go Go.RowKit Go.Maps Go.WideMaps
set_option linter.unusedVariables false
set_option linter.unusedSimpArgs false
attribute [local go_sem] Oper.semAt_some
theorem Kp.kept {bs : Nat} {X X' : World} (h : Kp [] X.heap.size X X') : Kept bs X X' := h.mono (by simp) (Nat.le_refl _)
theorem own_kpL {w w' : World} {B E n : Nat} {v : Value} {xs : List Value} (h : w.ownsRow B E 1 v n xs) {L : List Nat} (hk : Kp L w.heap.size w w') (hL : ∀ k ∈ L, k < B) : w'.ownsRow B E 1 v n xs := by
  obtain ⟨h0, h1⟩ := h
  refine ⟨h0, ?_⟩
  rcases h1 with h1 | ⟨g, cap, cur, e, hg, hb, r⟩
  · exact .inl h1
  · exact .inr ⟨g, cap, cur, e, hg, (hk.block g (Array.getElem?_eq_some_iff.1 hb).1 (fun e => by have := hL g e; omega)).trans hb, r⟩
theorem wpIn_scopeW {P : Program} {n : Nat} {c : Code} {Q : Exit → Act → World → Prop} {a : Act} {w : World} (h : c.wpIn Fence.wide n P (Exit.noGoto Q) a w) : (Code.scope c).wpIn Fence.wide n P Q a w := wpIn_wide.2 (wp_scope_straight (wpIn_wide.1 h))
theorem wpIn_labelW {P : Program} {n k : Nat} {Q : Exit → Act → World → Prop} {a : Act} {w : World} (h : Q .normal a w) : (Code.label k).wpIn Fence.wide n P Q a w := wpIn_wide.2 (wp_label h)
/-- what an iterator over frames hands on: the slice, its bytes, where the frame ends -/
structure Itm where
  v : Value
  x : List UInt8
  fin : Nat
def Itm.enc (i : Itm) : Array Value := #[i.v, .int .i64 (i.fin : Int)]
def endOf (l : List Itm) : Nat := match l.getLast? with | some i => i.fin | none => 0
theorem endOf_snoc (l : List Itm) (i : Itm) : endOf (l ++ [i]) = i.fin := by simp [endOf]
/-- all that comes -/
def AllIt (b : List UInt8) (seq : Nat) (l : List Itm) : Prop := l.map Itm.x = (allB b seq).1 ∧ endOf l = (allB b seq).2
theorem ceach {A : Nat → Prop} (v : Value) (b : List UInt8) (seq : Nat) (w : World) (h : BytesV w A v b) :
    Calls Tryz.prog 58 #[v, .int .u64 (seq : Int)] w fun e w' => e = .returned (.func (.func 81) #[] #[.pointer (some ⟨w.heap.size, 0, none⟩), .pointer (some ⟨w.heap.size + 1, 0, none⟩)]) ∧ w' = (w.alloc (.cells #[v] 39)).alloc (.cells #[.int .u64 (seq : Int)] 33) := by
  have hmf : ∀ (fn : Fn) (first cap : Array Value) (w : World), (Instr.makeFunc fn first cap).run Tryz.prog w = .ok (.func fn first cap) w := fun _ _ _ _ => rfl
  obtain ⟨ao, cap, rfl, -, -, -⟩ := id h
  obtain ⟨m, hm⟩ : ∃ m, m = b.length := ⟨_, rfl⟩
  rw [← hm]
  clear hm h
  go_enter Tryz.func58, Tryz.ntmps58
  go_wp2
  go_ret
  exact ⟨rfl, rfl⟩
/-- where an iterator over frames stands -/
structure Stand (wr : World) (base bb bs : Nat) (vb : Value) (b : List UInt8) (seq : Nat) (pre : List Itm) (at_ q : Nat) : Prop where
  all : allB b seq = (pre.map Itm.x ++ (allB (b.drop at_) q).1, at_ + (allB (b.drop at_) q).2)
  ends : endOf pre = at_
  le : at_ ≤ b.length
  lt : q < 18446744073709551616
  boxb : Boxed wr bb 39 vb
  boxs : Boxed wr bs 33 (.int .u64 (q : Int))
  bytes : BytesV wr (fun k => k < base) vb b
set_option maxHeartbeats 1600000 in
set_option maxRecDepth 100000 in
theorem each1 (n : Nat) (hn : 3 ≤ n) (l base bb bs : Nat) (hne : bs ≠ bb) (hbb : base ≤ bb) (hbs : base ≤ bs) (vb : Value) (b : List UInt8) (hb : b.length ≤ 140737488355328) (seq : Nat) (hseq : seq < 18446744073709551616) (J Jx : List Itm → World → Prop)
    (hJ : ∀ s X X', J s X → Kept bs X X' → J s X')
    (hY : ∀ pre x W, J pre W → W.ownsRow (bs + 1) 5 1 x.v x.x.length (bcells x.x) ∧ pre.map Itm.x ++ [x.x] <+: (allB b seq).1 → YieldAt Fence.wide (n - 1) Tryz.prog l x.enc W fun e W' =>
      (e = .returned (.bool true) ∧ J (pre ++ [x]) W' ∧ (∀ k, k < base ∨ k = bb ∨ k = bs → W'.heap[k]? = W.heap[k]?) ∧ W.heap.size ≤ W'.heap.size) ∨ (e = .returned (.bool false) ∧ Jx (pre ++ [x]) W'))
    (W : World) (hW : Stand W base bb bs vb b seq [] 0 seq) (h0 : J [] W) :
    CallsIn Fence.wide n Tryz.prog 81 #[.func (.yield l) #[] #[], .pointer (some ⟨bb, 0, none⟩), .pointer (some ⟨bs, 0, none⟩)] W fun e W' => (∃ v, e = .returned v) ∧
      ((∃ ys, AllIt b seq ys ∧ J ys W') ∨ (∃ pre, pre.map Itm.x <+: (allB b seq).1 ∧ Jx pre W')) := by
  refine callsIn_of_wp Tryz.func81 rfl trivial ?_ rfl
  simp only [Tryz.ntmps81, List.size_toArray, List.length_cons, List.length_nil, Nat.reduceAdd, Nat.reduceSub, Array.replicate_succ, Array.replicate_zero, List.push_toArray, List.append_toArray, List.nil_append, List.cons_append]
  gi_wp2
  refine wpIn_scopeW ?_
  gi_wp2
  refine wpIn_labelW ?_
  gi_wp2
  obtain ⟨ao, cap, rfl, hcap, hcap2, -⟩ := id hW.bytes
  obtain ⟨m, hm⟩ : ∃ m, m = b.length := ⟨_, rfl⟩
  rw [← hm] at hW hcap hb
  have HM := Lib.hid hm
  clear hm
  gi_loopw [4] (fun x wr => ∃ (pre : List Itm) (a q : Nat), x = .int .i64 (a : Int) ∧ Hid (Stand wr base bb bs (.slice ao m cap) b seq pre a q ∧ J pre wr)) (fun x _ => m - (intOf x).toNat)
  case atStart => exact ⟨[], 0, seq, rfl, hW, h0⟩
  case round =>
    obtain ⟨pre, a, q, rfl, HI⟩ := hrel
    obtain ⟨hS, hJp⟩ := HI.out
    have ham : a ≤ m := by rw [HM.out]; exact hS.le
    have c1 := hS.boxb.cell
    have c2 := hS.boxs.cell
    have ha63 : (a : Int) ≤ (m : Int) := by omega
    have hmb : m = b.length := HM.out
    have HV : Hid (if cap = a then BytesV wr (fun k => k < base) (.slice ao (m - a) 0) (b.drop a) else BytesV wr (fun k => k < base) (.slice (Option.map (fun x => x.add a) ao) (m - a) (cap - a)) (b.drop a)) := by
      by_cases h0 : b = []
      · subst h0
        simp at hmb
        have ha0 : a = 0 := by omega
        subst ha0
        subst hmb
        obtain ⟨ao', cap', he, _, _, h3⟩ := hS.bytes
        injection he with he1 _ he3
        subst he1 he3
        rcases h3 with ⟨rfl, _, rfl⟩ | ⟨x, rfl, hx1, hx2⟩
        · rw [if_pos rfl]; exact BytesV.nil _ _
        · split
          · exact ⟨_, 0, rfl, by simp, by omega, .inr ⟨x, rfl, fun h => absurd rfl h, fun j hj => absurd hj (by simp)⟩⟩
          · exact ⟨_, cap, rfl, by simp, by omega, .inr ⟨x.add 0, rfl, fun h => absurd rfl h, fun j hj => absurd hj (by simp)⟩⟩
      · obtain ⟨x0, rfl, -⟩ := hS.bytes.at (k := 0) (by cases b with | nil => exact absurd rfl h0 | cons => simp)
        have := hS.bytes.drop a (by omega)
        by_cases hc : a = cap
        · subst hc; rw [if_pos rfl]; rw [if_pos rfl, Nat.sub_self] at this; exact this
        · rw [if_neg (fun e => hc e.symm)]; rw [if_neg hc] at this; exact this
    clear hmb
    have hlb : (b.drop a).length ≤ 140737488355328 := by rw [List.length_drop, ← HM.out]; omega
    have HS := Lib.hid hS
    have HJ := Lib.hid hJp
    clear hS hJp HI
    cases hn2 : nextB (b.drop a) with
    | none =>
      have HE : Hid (AllIt b seq pre) := by
        have := HS.out.all
        rw [allB_none hn2] at this
        exact ⟨by rw [this]; simp, by rw [this]; exact HS.out.ends⟩
      have HN := Lib.hid hn2
      clear hn2
      by_cases hca : cap = a
      · rw [if_pos hca] at HV
        gi_wp2
        refine ⟨trivial, fun _ => by omega, ?_⟩
        refine (callsIn_wide.2 (cNext_none _ (b.drop a) wr HV.out hlb HN.out)).mono ?_
        rintro e w2 ⟨rfl, k2⟩
        have HJ2 := Lib.hid (hJ pre wr w2 HJ.out k2.kept)
        clear k2 c1 c2
        gi_wp2
        (try rw [Exit.noGoto_normal])
        go_end0
        exact ⟨⟨_, rfl⟩, .inl ⟨pre, HE.out, HJ2.out⟩⟩
      · rw [if_neg hca] at HV
        gi_wp2
        refine ⟨trivial, fun _ => by omega, ?_⟩
        refine (callsIn_wide.2 (cNext_none _ (b.drop a) wr HV.out hlb HN.out)).mono ?_
        rintro e w2 ⟨rfl, k2⟩
        have HJ2 := Lib.hid (hJ pre wr w2 HJ.out k2.kept)
        clear k2 c1 c2
        gi_wp2
        (try rw [Exit.noGoto_normal])
        go_end0
        exact ⟨⟨_, rfl⟩, .inl ⟨pre, HE.out, HJ2.out⟩⟩
    | some p =>
      obtain ⟨s, x⟩ := p
      have hinv := nextB_inv hn2
      have HN := Lib.hid hn2
      obtain ⟨n', hnx⟩ : ∃ n', n' = x.length := ⟨_, rfl⟩
      have HNX := Lib.hid hnx
      rw [← hnx, List.length_drop, ← HM.out] at hinv
      obtain ⟨h1, h2, h3, -⟩ := hinv
      have hca : ¬ cap = a := by omega
      rw [if_neg hca] at HV
      clear hn2 hnx
      by_cases hsq : s = q
      · subst hsq
        have q1 : ((s : Int) == (s : Int)) = true := by simp
        have q2 : ((s : Int) != (s : Int)) = false := by simp
        gi_wp2
        refine ⟨trivial, fun _ => by omega, ?_⟩
        refine (callsIn_wide.2 (cNext_some _ (b.drop a) wr HV.out hlb HN.out)).mono ?_
        rintro e w2 ⟨vx, rfl, ho2, k2⟩
        have HJ2 := Lib.hid (hJ pre wr w2 HJ.out k2.kept)
        have c3 := (k2.cell (p := ⟨bs, 0, none⟩) (HS.out.boxs.lt) (by simp)).trans c2
        obtain ⟨ox, nx, px, rfl, hnx⟩ := own_shape ho2
        have HO2 := Lib.hid ho2
        have HK2 := Lib.hid k2
        rw [← HNX.out]
        clear k2 c1 c2 ho2
        gi_wp2
        have hb2 := (HK2.out.block bs HS.out.boxs.lt (by simp)).trans HS.out.boxs
        have f3 : w2.frozen? ⟨bs, 0, none⟩ = false := (cell1 hb2).2
        have HB2 := Lib.hid hb2
        have e1 : IntKind.i64.wrap ((a : Int) + (16 + (n' : Int))) = ((a + (16 + n') : Nat) : Int) := by
          rw [show (a : Int) + (16 + (n' : Int)) = ((a + (16 + n') : Nat) : Int) by omega]; exact IntWalk.i64_in _ (by omega)
        have e2 : IntKind.u64.wrap ((s : Int) + 1) = (((s + 1) % 18446744073709551616 : Nat) : Int) := by rw [IntKind.wrap_u64]; omega
        clear hb2 q1 q2
        refine wpIn_wide.2 ?_
        go_region
        obtain ⟨W3, hW3⟩ : ∃ W3, W3 = (w2.setCell { block := bs, off := 0 } (Value.int IntKind.u64 (((s : Int) + 1) % 18446744073709551616))).drew := ⟨_, rfl⟩
        (try simp only [Exit.then, Exit.inBlock])
        rw [← hW3]
        have hq : (((s : Int) + 1) % 18446744073709551616) = (((s + 1) % 18446744073709551616 : Nat) : Int) := by omega
        rw [hq] at hW3
        have hb3 : Boxed W3 bs 33 (.int .u64 (((s + 1) % 18446744073709551616 : Nat) : Int)) := by
          rw [hW3]; exact one_setCell HB2.out
        have hk3 : Kp [bs] w2.heap.size w2 W3 := by
          rw [hW3]; exact ((Kp.refl _ _ _).setCell (.inr (by simp)) _ _ _).drew 1
        have hJ3 : J pre W3 := hJ pre w2 W3 HJ2.out hk3
        have hall := HS.out.all
        rw [allB_some HN.out, List.drop_drop] at hall
        have hsz2 := HK2.out.size
        have hbsz : base ≤ bs := hbs
        have hbl := HS.out.boxs.lt
        have hB3 : W3.ownsRow (bs + 1) 5 1 (.slice ox nx px) x.length (bcells x) := (own_kpL HO2.out hk3 (by simp; omega)).base (by omega)
        have hpre : pre.map Itm.x ++ [x] <+: (allB b seq).1 := by rw [hall]; exact ⟨_, by simp only [List.append_assoc, List.cons_append, List.nil_append]; exact rfl⟩
        obtain ⟨fn, tmps, assign, body, hy, hR⟩ := hY pre ⟨.slice ox nx px, x, a + (16 + n')⟩ W3 hJ3 ⟨hB3, hpre⟩
        simp only [Itm.enc, Int.natCast_add] at hy
        have hy2 : Sem.run Tryz.prog (Instr.yield l #[Value.slice ox nx px, Value.int IntKind.i64 ((a : Int) + (16 + (n' : Int)))]) W3 = .ok (.round l fn tmps assign body) W3 := hy
        have HW3 := Lib.hid hW3
        have HB3 := Lib.hid hb3
        have HK3 := Lib.hid hk3
        have HA3 := Lib.hid hall
        clear hW3 hb3 hk3 hall hy hJ3 hB3 hpre
        gi_wp2
        refine ⟨fun _ => by omega, hR.mono ?_⟩
        clear hy2 hR hsz2 hbsz
        rintro e W4 (⟨rfl, hJ4, hk4, hz4⟩ | ⟨rfl, hJx4⟩)
        · have hS4 : Stand W4 base bb bs (.slice ao m cap) b seq (pre ++ [⟨.slice ox nx px, x, a + (16 + n')⟩]) (a + (16 + n')) ((s + 1) % 18446744073709551616) := by
            have hh := HA3.out
            rw [← HNX.out] at hh
            refine ⟨?_, endOf_snoc _ _, by have := HM.out; omega, by omega, ?_, ?_, ?_⟩
            · rw [hh]
              simp only [List.map_append, List.map_cons, List.map_nil, List.append_assoc, List.cons_append, List.nil_append, Nat.add_assoc]
            · exact (hk4 bb (.inr (.inl rfl))).trans ((HK3.out.block bb (Nat.lt_of_lt_of_le HS.out.boxb.lt HK2.out.size) (by simpa using hne.symm)).trans ((HK2.out.block bb HS.out.boxb.lt (by simp)).trans HS.out.boxb))
            · exact (hk4 bs (.inr (.inr rfl))).trans HB3.out
            · refine ((HS.out.bytes.kp HK2.out (by simp)).kp HK3.out (by simp; omega)).mono hz4 (fun k hk hl => ⟨hk, hk4 k (.inl hk)⟩)
          have HS4 := Lib.hid hS4
          have HJ4 := Lib.hid hJ4
          clear hS4 hJ4 hk4
          dsimp only
          gi_wp2
          go_roundw
          case rel => exact ⟨_, a + (16 + n'), _, by go_num, HS4.out, HJ4.out⟩
          case measure => simp [intOf]; omega
        · dsimp only
          gi_wp2
          (try rw [Exit.noGoto_ret])
          refine bodyPost_ret (results_none rfl _ _ _) rfl ?_
          exact ⟨⟨_, rfl⟩, .inr ⟨_, by rw [HA3.out]; exact ⟨_, by simp only [List.map_append, List.map_cons, List.map_nil, List.append_assoc, List.cons_append, List.nil_append]; exact rfl⟩, hJx4⟩⟩
      · have HE : Hid (AllIt b seq pre) := by
          have := HS.out.all
          rw [allB_other HN.out hsq] at this
          exact ⟨by rw [this]; simp, by rw [this]; exact HS.out.ends⟩
        have q1 : ((s : Int) == (q : Int)) = false := by simp; omega
        have q2 : ((s : Int) != (q : Int)) = true := by simp; omega
        gi_wp2
        refine ⟨trivial, fun _ => by omega, ?_⟩
        refine (callsIn_wide.2 (cNext_some _ (b.drop a) wr HV.out hlb HN.out)).mono ?_
        rintro e w2 ⟨vx, rfl, ho2, k2⟩
        have HJ2 := Lib.hid (hJ pre wr w2 HJ.out k2.kept)
        have c3 := (k2.cell (p := ⟨bs, 0, none⟩) (HS.out.boxs.lt) (by simp)).trans c2
        obtain ⟨ox, nx, px, rfl, hnx⟩ := own_shape ho2
        rw [← HNX.out]
        clear k2 c1 c2 ho2
        gi_wp2
        (try rw [Exit.noGoto_normal])
        go_end0
        exact ⟨⟨_, rfl⟩, .inl ⟨pre, HE.out, HJ2.out⟩⟩
end Go.Proofs.YtdabflkejhoghaaGreat.Hand
namespace Go.Proofs.YtdabflkejhoghaaGreat.Hand
open Go Go.RowKit Go.Maps Go.WideMaps
set_option linter.unusedVariables false
set_option linter.unusedSimpArgs false
attribute [local go_sem] Oper.semAt_some
/-- a slice of slices of bytes, all of one's own -/
def RowsR (w : World) (base : Nat) (v : Value) (L : List (List UInt8)) : Prop := ∃ hs : List (Value × List UInt8), L = hs.map (·.2) ∧ w.ownsRow base 39 1 v hs.length (hs.map (·.1)) ∧ ∀ h ∈ hs, w.ownsRow base 5 1 h.1 h.2.length (bcells h.2)
theorem RowsR.kpL {w w' : World} {base : Nat} {v : Value} {L : List (List UInt8)} (h : RowsR w base v L) {M : List Nat} (hk : Kp M w.heap.size w w') (hM : ∀ k ∈ M, k < base) : RowsR w' base v L := by
  obtain ⟨hs, h1, h2, h3⟩ := h
  exact ⟨hs, h1, own_kpL h2 hk hM, fun h hh => own_kpL (h3 h hh) hk hM⟩
theorem RowsR.base {w : World} {base base' : Nat} {v : Value} {L : List (List UInt8)} (h : RowsR w base v L) (hb : base' ≤ base) : RowsR w base' v L := by
  obtain ⟨hs, h1, h2, h3⟩ := h
  exact ⟨hs, h1, h2.base hb, fun h hh => (h3 h hh).base hb⟩
theorem RowsR.nil (w : World) (base : Nat) : RowsR w base (.slice none 0 0) [] := ⟨[], rfl, ⟨rfl, .inl ⟨rfl, rfl⟩⟩, by simp⟩
theorem RowsR.shape {w : World} {base : Nat} {v : Value} {L : List (List UInt8)} (h : RowsR w base v L) : ∃ ao cap, v = .slice ao L.length cap ∧ L.length ≤ cap ∧ cap ≤ maxLen := by
  obtain ⟨hs, rfl, ⟨_, h2⟩, _⟩ := h
  rcases h2 with ⟨rfl, hn⟩ | ⟨g, cap, cur, rfl, _, _, h3, h4, _⟩
  · exact ⟨none, 0, by simp [hn], by simp [hn], by decide⟩
  · exact ⟨some ⟨g, 0, none⟩, cap, by simp, by simpa using h3, h4⟩
theorem infoRow : (Tryz.prog.info? 39).map (fun i => (i.zero, i.size, i.bytes)) = some (some (.slice none 0 0), 1, 24) := by kernel_rfl
theorem box_ne_row {W : World} {B base e n : Nat} {t : TypeId} {v u : Value} {xs : List Value} (hb : Boxed W B t v) (hr : W.ownsRow base e 1 u n xs) (hte : t ≠ e) : u.ownBlock ≠ some B := by
  intro he
  rcases hr.2 with ⟨rfl, _⟩ | ⟨g, cap, cur, rfl, _, hg, _⟩
  · cases he
  · have : g = B := by simpa [Value.ownBlock] using he
    subst this
    have hb' : W.heap[g]? = some (.cells #[v] t (0, 0)) := hb
    rw [hb'] at hg
    injection hg with hg
    injection hg with _ h2
    exact hte h2
theorem rows_ne {W : World} {base e e' n n' : Nat} {u u' : Value} {xs xs' : List Value} (hr : W.ownsRow base e 1 u n xs) (hr' : W.ownsRow base e' 1 u' n' xs') (hte : e ≠ e') : u.ownBlock = none ∨ u.ownBlock ≠ u'.ownBlock := by
  rcases hr.2 with ⟨rfl, _⟩ | ⟨g, cap, cur, rfl, _, hg, _⟩
  · exact .inl rfl
  · refine .inr fun he => ?_
    rcases hr'.2 with ⟨rfl, _⟩ | ⟨g', cap', cur', rfl, _, hg', _⟩
    · cases he
    · have : g = g' := by simpa [Value.ownBlock] using he
      subst this
      rw [hg] at hg'
      injection hg' with hg'
      injection hg' with _ h2
      exact hte h2
/-- what a loop over frames has gathered -/
structure AI (n1 B1 B2 base : Nat) (w0 : World) (pre : List Itm) (v : Value) (W : World) : Prop where
  box : Boxed W B1 49 v
  own : W.ownsRow n1 39 1 v pre.length (pre.map Itm.v)
  fin : Boxed W B2 3 (.int .i64 (endOf pre : Nat))
  items : ∀ i ∈ pre, W.ownsRow n1 5 1 i.v i.x.length (bcells i.x)
  kp : Kp [] base w0 W
  big : n1 ≤ W.heap.size
theorem AI.grown {n1 B1 B2 base : Nat} {w0 : World} {pre : List Itm} {v : Value} {W W' : World} (h : AI n1 B1 B2 base w0 pre v W) {row : Option Nat} (hg : W.grownBy W' row) (hr : ∀ r, row = some r → base ≤ r ∧ ∃ o : Obj, W.heap[r]? = some o ∧ o.isCells = false) (hb : base ≤ W.heap.size) : AI n1 B1 B2 base w0 pre v W' := by
  have hk : Kp row.toList W.heap.size W W' := ⟨hg.os, hg.tape, hg.output, hg.size, fun k hk hn => hg.block k hk (fun e => hn (by rw [← e]; simp))⟩
  have cells : ∀ {g : Nat} {c : Array Value} {t : TypeId} {f : Nat × Nat}, W.heap[g]? = some (.cells c t f) → W'.heap[g]? = some (.cells c t f) := by
    intro g c t f hc
    refine (hg.block g (Array.getElem?_eq_some_iff.1 hc).1 (fun e => ?_)).trans hc
    obtain ⟨_, o, ho, hoc⟩ := hr g e.symm
    rw [hc] at ho; cases ho; simp [Obj.isCells] at hoc
  have own : ∀ {B E n : Nat} {u : Value} {xs : List Value}, W.ownsRow B E 1 u n xs → W'.ownsRow B E 1 u n xs := by
    intro B E n u xs ho
    refine ⟨ho.1, ?_⟩
    rcases ho.2 with h1 | ⟨g, cap, cur, e, hgB, hgg, r⟩
    · exact .inl h1
    · exact .inr ⟨g, cap, cur, e, hgB, cells hgg, r⟩
  refine ⟨cells h.box, own h.own, cells h.fin, fun i hi => own (h.items i hi), h.kp.trans (hk.cut (fun k hk => ?_) hb), Nat.le_trans h.big hg.size⟩
  exact (hr k (by simpa using hk)).1
theorem AI.kept {n1 B1 B2 base : Nat} {w0 : World} {pre : List Itm} {v : Value} {W W' : World} (h : AI n1 B1 B2 base w0 pre v W) {bs : Nat} (hk : Kept bs W W') (h1 : bs < n1) (h2 : B1 ≠ bs ∧ B2 ≠ bs) (h3 : base ≤ bs) (hb : base ≤ W.heap.size) : AI n1 B1 B2 base w0 pre v W' := by
  have hk' : Kp [bs] W.heap.size W W' := hk
  refine ⟨(hk'.block B1 h.box.lt (by simpa using h2.1)).trans h.box, own_kpL h.own hk' (by simpa using h1), (hk'.block B2 h.fin.lt (by simpa using h2.2)).trans h.fin, fun i hi => own_kpL (h.items i hi) hk' (by simpa using h1), h.kp.trans (hk'.cut (by simpa using h3) hb), Nat.le_trans h.big hk'.size⟩
theorem AI.boxes {n1 B1 B2 base : Nat} {w0 : World} {pre : List Itm} {v : Value} {W w1 : World} (h : AI n1 B1 B2 base w0 pre v W) {tmp : Obj} (hg : (W.alloc tmp).grownBy w1 v.ownBlock) : w1.heap[B1]? = some (.cells #[v] 49 (0, 0)) ∧ w1.heap[B2]? = some (.cells #[.int .i64 (endOf pre : Nat)] 3 (0, 0)) :=
  ⟨(hg.block B1 (by simp; have := h.box.lt; omega) (fun e => box_ne_row h.box h.own (by decide) e.symm)).trans ((Below.heap_alloc _ _ _ h.box.lt).trans h.box),
   (hg.block B2 (by simp; have := h.fin.lt; omega) (fun e => box_ne_row h.fin h.own (by decide) e.symm)).trans ((Below.heap_alloc _ _ _ h.fin.lt).trans h.fin)⟩
theorem AI.others {n1 B1 B2 base : Nat} {w0 : World} {pre : List Itm} {v : Value} {W w1 : World} (h : AI n1 B1 B2 base w0 pre v W) {tmp : Obj} (hg : (W.alloc tmp).grownBy w1 v.ownBlock) (v1 v2 : Value) : KeepsOthers W ((w1.setCell ⟨B1, 0, none⟩ v1).setCell ⟨B2, 0, none⟩ v2) := by
  refine (((KeepsOthers.alloc W tmp).trans (KeepsOthers.of_grownBy hg fun j o ej hj => ?_)).trans (KeepsOthers.setCell _ _ _)).trans (KeepsOthers.setCell _ _ _)
  rcases h.own.2 with ⟨rfl, _⟩ | ⟨g, cap, cur, rfl, _, hgb, _⟩
  · simp [Value.ownBlock] at ej
  · obtain rfl : g = j := by simpa [Value.ownBlock] using ej
    rw [Below.heap_alloc _ _ _ (Array.getElem?_eq_some_iff.1 hgb).1, hgb] at hj; cases hj; rfl
theorem AI.low {n1 B1 B2 base : Nat} {w0 : World} {pre : List Itm} {v : Value} {W w1 : World} (h : AI n1 B1 B2 base w0 pre v W) {tmp : Obj} (hg : (W.alloc tmp).grownBy w1 v.ownBlock) (v1 v2 : Value) (k : Nat) (hk : k < n1) (h1 : k ≠ B1) (h2 : k ≠ B2) : ((w1.setCell ⟨B1, 0, none⟩ v1).setCell ⟨B2, 0, none⟩ v2).heap[k]? = W.heap[k]? := by
  have hb := h.big
  refine (Below.heap_setCell _ _ _ _ h2).trans ((Below.heap_setCell _ _ _ _ h1).trans ((hg.block k (by simp; omega) (fun e => ?_)).trans (Below.heap_alloc _ _ _ (by omega))))
  have := own_ge h.own k e.symm
  omega
/-- a round: one more is gathered -/
theorem AI.more {n1 B1 B2 base : Nat} {w0 : World} {pre : List Itm} {v v' : Value} {W w1 : World} (h : AI n1 B1 B2 base w0 pre v W) (x : Itm) (hx : W.ownsRow n1 5 1 x.v x.x.length (bcells x.x)) (tmp : Obj) (hown : w1.ownsRow n1 39 1 v' (pre.length + 1) (pre.map Itm.v ++ [x.v])) (hg : (W.alloc tmp).grownBy w1 v.ownBlock)
    (hn : base ≤ B1 ∧ base ≤ B2 ∧ base ≤ n1 ∧ B1 ≠ B2 ∧ base ≤ W.heap.size) : AI n1 B1 B2 base w0 (pre ++ [x]) v' ((w1.setCell ⟨B1, 0, none⟩ v').setCell ⟨B2, 0, none⟩ (.int .i64 (x.fin : Int))) := by
  have hal : ∀ {B E n : Nat} {u : Value} {xs : List Value}, W.ownsRow B E 1 u n xs → (W.alloc tmp).ownsRow B E 1 u n xs := fun ho => own_kp ho (((Kp.refl [] W.heap.size W)).alloc (Nat.le_refl _) tmp) (Nat.le_refl _)
  have b1 : Boxed w1 B1 49 v := (hg.block B1 (by simp; have := h.box.lt; omega) (fun e => box_ne_row h.box h.own (by decide) e.symm)).trans ((Below.heap_alloc _ _ _ h.box.lt).trans h.box)
  have b2 : Boxed w1 B2 3 (.int .i64 (endOf pre : Nat)) := (hg.block B2 (by simp; have := h.fin.lt; omega) (fun e => box_ne_row h.fin h.own (by decide) e.symm)).trans ((Below.heap_alloc _ _ _ h.fin.lt).trans h.fin)
  have it : ∀ i ∈ pre ++ [x], w1.ownsRow n1 5 1 i.v i.x.length (bcells i.x) := by
    intro i hi
    have hi' : W.ownsRow n1 5 1 i.v i.x.length (bcells i.x) := by
      rcases List.mem_append.1 hi with hi | hi
      · exact h.items i hi
      · rw [List.mem_singleton.1 hi]; exact hx
    exact (hal hi').kept hg (rows_ne hi' h.own (by decide))
  have c1 : Boxed (w1.setCell ⟨B1, 0, none⟩ v') B1 49 v' := one_setCell b1
  have c2 : Boxed (w1.setCell ⟨B1, 0, none⟩ v') B2 3 (.int .i64 (endOf pre : Nat)) := (Below.heap_setCell _ _ _ _ (by show B2 ≠ B1; exact hn.2.2.2.1.symm)).trans b2
  have o1 : (w1.setCell ⟨B1, 0, none⟩ v').ownsRow n1 39 1 v' (pre.length + 1) (pre.map Itm.v ++ [x.v]) := ownsRow_setCell_other hown (box_ne_row b1 hown (by decide)) _
  refine ⟨(Below.heap_setCell _ _ _ _ (by show B1 ≠ B2; exact hn.2.2.2.1)).trans c1, ?_, ?_, fun i hi => ?_, ?_, ?_⟩
  · have := ownsRow_setCell_other (a := ⟨B2, 0, none⟩) o1 (box_ne_row c2 o1 (by decide)) (.int .i64 (x.fin : Int))
    simpa using this
  · rw [endOf_snoc]; exact one_setCell c2
  · have h0 := it i hi
    have h1 := ownsRow_setCell_other (a := ⟨B1, 0, none⟩) h0 (box_ne_row b1 h0 (by decide)) v'
    exact ownsRow_setCell_other (a := ⟨B2, 0, none⟩) h1 (box_ne_row c2 h1 (by decide)) _
  · have hz : base ≤ (W.alloc tmp).heap.size := by simp; omega
    have k1 : Kp [] base W (W.alloc tmp) := (Kp.refl _ _ _).alloc hn.2.2.2.2 _
    have k2 : Kp [] base (W.alloc tmp) w1 := kp_grown hg (fun k hk => by have := own_ge h.own k hk; omega) hz
    exact (((h.kp.trans k1).trans k2).setCell (.inl hn.1) _ _ _).setCell (.inl hn.2.1) _ _ _
  · have h1 := h.big
    have h2 := hg.size
    simp only [World.size_alloc] at h2
    simp only [World.size_setCell]
    omega
end Go.Proofs.YtdabflkejhoghaaGreat.Hand
namespace Go.Proofs.YtdabflkejhoghaaGreat.Hand
open Go Go.RowKit Go.Maps Go.WideMaps
set_option linter.unusedVariables false
set_option linter.unusedSimpArgs false
attribute [local go_sem] Oper.semAt_some
set_option maxHeartbeats 2000000 in
set_option maxRecDepth 100000 in
theorem cAll {A : Nat → Prop} (v : Value) (b : List UInt8) (seq : Nat) (w : World) (h : BytesV w A v b) (hb : b.length ≤ 16777216) (hs : seq < 18446744073709551616) :
    Calls Tryz.prog 33 #[v, .int .u64 (seq : Int)] w fun e w' => ∃ v', e = .returned (.tuple #[v', .int .i64 ((allB b seq).2 : Nat)]) ∧ RowsR w' w.heap.size v' (allB b seq).1 ∧ Kp [] w.heap.size w w' := by
  obtain ⟨i0, hi, hz0, hz1, hz2⟩ := info_parts infoRow
  have HB := Lib.hid h.low
  obtain ⟨ao, cap, rfl, hcap, hcap2, -⟩ := id h
  obtain ⟨m, hm⟩ : ∃ m, m = b.length := ⟨_, rfl⟩
  rw [← hm] at HB ⊢
  have HM := Lib.hid hm
  have hE : ∀ w', Kp [] w.heap.size w w' → Calls Tryz.prog 58 #[.slice ao m cap, .int .u64 (seq : Int)] w' fun e w'' => e = .returned (.func (.func 81) #[] #[.pointer (some ⟨w'.heap.size, 0, none⟩), .pointer (some ⟨w'.heap.size + 1, 0, none⟩)]) ∧ w'' = (w'.alloc (.cells #[.slice ao m cap] 39)).alloc (.cells #[.int .u64 (seq : Int)] 33) := fun w' hk => ceach _ b seq w' (HB.out.kp hk (by simp))
  have HE := Lib.hid hE
  clear h hm hcap hE
  refine (callsIn_wide (n := 8)).1 ?_
  refine callsIn_of_wp_marks Tryz.func33 rfl trivial ?_ rfl
  simp only [Tryz.ntmps33, List.size_toArray, List.length_cons, List.length_nil, Nat.reduceAdd, Nat.reduceSub, Array.replicate_succ, Array.replicate_zero, List.push_toArray, List.append_toArray, List.nil_append, List.cons_append]
  gi_wp2
  obtain ⟨w2, hw2⟩ : ∃ w2, w2 = ((w.alloc (.cells #[.slice none 0 0] 49)).alloc (.cells #[.int .i64 0] 3)) := ⟨_, rfl⟩
  have hz2' : w2.heap.size = w.heap.size + 2 := by rw [hw2]; simp
  have hk2 : Kp [] w.heap.size w w2 := by rw [hw2]; exact ((Kp.refl _ _ _).alloc (Nat.le_refl _) _).alloc (by simp) _
  obtain ⟨hc1, hc2⟩ := two_cells w (.cells #[.slice none 0 0] 49) (.cells #[.int .i64 0] 3)
  rw [← hw2] at hc1 hc2 ⊢
  refine ⟨trivial, (callsIn_wide.2 (HE.out w2 hk2)).mono ?_⟩
  rintro e w1 ⟨rfl, rfl⟩
  obtain ⟨W0, hW0⟩ : ∃ W0, W0 = (w2.alloc (.cells #[.slice ao m cap] 39)).alloc (.cells #[.int .u64 (seq : Int)] 33) := ⟨_, rfl⟩
  obtain ⟨hc3, hc4⟩ := two_cells w2 (.cells #[.slice ao m cap] 39) (.cells #[.int .u64 (seq : Int)] 33)
  have hzW : W0.heap.size = w.heap.size + 4 := by rw [hW0]; simp; omega
  have hkW : Kp [] w2.heap.size w2 W0 := by rw [hW0]; exact ((Kp.refl _ _ _).alloc (Nat.le_refl _) _).alloc (by simp) _
  rw [← hW0, hz2'] at hc3 hc4
  rw [← hW0, hz2']
  have hc1' := (hkW.block w.heap.size (by omega) (by simp)).trans hc1
  have hc2' := (hkW.block (w.heap.size + 1) (by omega) (by simp)).trans hc2
  have hkA : Kp [] w.heap.size w W0 := hk2.trans (hkW.mono (by simp) (by omega))
  have HBW := Lib.hid (HB.out.kp hkA (by simp))
  have HST : Hid (Stand W0 w.heap.size (w.heap.size + 2) (w.heap.size + 3) (.slice ao m cap) b seq [] 0 seq) := ⟨by simp, rfl, by omega, hs, hc3, hc4, HBW.out⟩
  have HAI : Hid (AI (w.heap.size + 4) w.heap.size (w.heap.size + 1) w.heap.size w [] (.slice none 0 0) W0) := ⟨hc1', ⟨rfl, .inl ⟨rfl, rfl⟩⟩, hc2', by simp, hkA, by omega⟩
  clear hW0 hw2 hc1 hc2 hc3 hc4 hkW hk2 hc1' hc2' HE
  dsimp only
  gi_wp2
  have hlenx : 16 * (allB b seq).1.length ≤ b.length := by have := allB_le b.length b seq (Nat.le_refl _); omega
  refine rangeMem (bs := w.heap.size + 3) rfl (by omega) (gf := 81) (lb := #[.pointer (some ⟨w.heap.size + 2, 0, none⟩), .pointer (some ⟨w.heap.size + 2 + 1, 0, none⟩)]) rfl trivial (enters_of Tryz.func81 (by kernel_rfl) rfl)
    (encs := fun x : Itm => #[x.v, .int .i64 (x.fin : Int)]) (Kp := fun X Y => (∀ k, k < w.heap.size ∨ k = w.heap.size + 2 ∨ k = w.heap.size + 3 → Y.heap[k]? = X.heap[k]?) ∧ X.heap.size ≤ Y.heap.size) (S := AllIt b seq) (Sp := fun pre => pre.map Itm.x <+: (allB b seq).1) (R := fun pre x X => X.ownsRow (w.heap.size + 3 + 1) 5 1 x.v x.x.length (bcells x.x) ∧ pre.map Itm.x ++ [x.x] <+: (allB b seq).1)
    (by omega) ?seq ?kt ?kb (fun _ => rfl)
    (fun pre X => ∃ v', AI (w.heap.size + 4) w.heap.size (w.heap.size + 1) w.heap.size w pre v' X)
    (fun _ _ _ => False)
    (fun s X Y row hs hg hr => ?own1)
    (fun c s X Y row hs _ _ => hs)
    (fun s X X' hs hk => ?keep1)
    ?rb
    ⟨_, HAI.out⟩
    (fun x => { tmps := #[.slice ao m cap, .int .u64 (seq : Int), undef, undef, .slice none 0 0, .int .i64 0, .pointer (some ⟨w.heap.size, 0, none⟩), .pointer (some ⟨w.heap.size + 1, 0, none⟩), x.v, .int .i64 (x.fin : Int), .slice ao m cap, .int .u64 (seq : Int), .func (.func 81) #[] #[.pointer (some ⟨w.heap.size + 2, 0, none⟩), .pointer (some ⟨w.heap.size + 2 + 1, 0, none⟩)], x.v, .int .i64 (x.fin : Int), undef, undef, undef, undef, undef, undef, undef], defers := [] }) ?assign ?body ?done ?stop
  case own1 =>
    obtain ⟨v', hs⟩ := hs
    exact ⟨v', hs.grown hg (fun r e => ⟨by have := (hr r e).1; omega, (hr r e).2⟩) hs.kp.size⟩
  case keep1 =>
    obtain ⟨v', hs⟩ := hs
    exact ⟨v', hs.kept hk (by omega) ⟨by omega, by omega⟩ (by omega) hs.kp.size⟩
  case kt =>
    rintro X Y Z ⟨h1, h2⟩ ⟨h3, h4⟩
    exact ⟨fun k hk => (h3 k hk).trans (h1 k hk), Nat.le_trans h2 h4⟩
  case kb =>
    intro X l' o o' hl' hX ho _
    exact ⟨fun k hk => World.putObj_heap_other (by omega), by simp [World.putObj]⟩
  case rb =>
    rintro pre x X l' o o' hl' ⟨h1, h2⟩ hX ho
    refine ⟨ownsRow_putObj h1 o' hX ho, h2⟩
  case seq =>
    intro l' J Jx W hW hJ hY h0'
    refine (each1 7 (by omega) l' w.heap.size (w.heap.size + 2) (w.heap.size + 3) (by omega) (by omega) (by omega) (.slice ao m cap) b (by omega) seq hs J Jx hJ (fun pre x W1 h1 h2 => (hY pre x W1 h1 h2).mono ?_) W ?_ h0')
    · rintro e W' (⟨h1, h2, h3, h4⟩ | h1)
      · exact .inl ⟨h1, h2, h3, h4⟩
      · exact .inr h1
    · have hS := HST.out
      have hWk : Kp [] W0.heap.size W0 W := Kp.of_below hW (Nat.le_refl _)
      exact ⟨hS.all, hS.ends, hS.le, hS.lt, (hWk.block _ hS.boxb.lt (by simp)).trans hS.boxb, (hWk.block _ hS.boxs.lt (by simp)).trans hS.boxs, hS.bytes.kp hWk (by simp)⟩
  case assign =>
    intro l' x W K hK
    gi_wp2
    exact hK
  case body =>
    rintro l' pre ⟨xv, xx, xf⟩ W ⟨v', hI⟩ ⟨hx, hpre⟩
    have hlp : pre.length + 1 ≤ (allB b seq).1.length := by have := hpre.length_le; simpa using this
    obtain ⟨so, sn, sc, rfl, hsn⟩ := own_shape hI.own
    obtain ⟨xo, xn, xc, hxv, hxn⟩ := own_shape hx
    have hxv' : xv = .slice xo xn xc := hxv
    subst hxv'
    have c1 := (cell1 hI.box).1
    have f1 := (cell1 hI.box).2
    have f2 := (cell1 hI.fin).2
    have c2 := (cell1 hI.fin).1
    have hz := hI.kp.size
    have HII := Lib.hid hI
    have HX := Lib.hid hx
    clear hx hpre hI hxv
    gi_wp2_with (gi_at_builtin; refine wpListIn_append_own _ rfl _ _ 49 rfl (w.heap.size + 4) 39 i0 (.slice none 0 0) 1 24 Tryz.underlying49 hi hz0 hz1 hz2 rfl (by decide) _ _ _ rfl (own_kp HII.out.own (((Kp.refl [] W.heap.size W)).alloc (Nat.le_refl _) _) (Nat.le_refl _)) ⟨W.heap.size, 0, none⟩ 1 1 [.slice xo xn xc] rfl rfl (cell_one_new _ _ _) (by simp [Value.oneCell']) (by unfold maxLen; omega) (by omega) (by have := HII.out.big; simp; omega) ?_; intro v2 w1 hown hgrow _; obtain ⟨o2, n2, p2, rfl, hn2⟩ := own_shape hown; obtain ⟨bx1, bx2⟩ := HII.out.boxes hgrow; have d1 := cell1 bx1; have d2 := cell1 bx2; have HOW := Lib.hid hown; have HGR := Lib.hid hgrow; clear hown hgrow bx1 bx2)
    exact ⟨HII.out.others HGR.out _ _, ⟨fun k hk => HII.out.low HGR.out _ _ k (by omega) (by omega) (by omega), by have := HGR.out.size; simp only [World.size_alloc] at this; simp only [World.size_setCell]; omega⟩, ⟨_, HII.out.more ⟨.slice xo xn xc, xx, xf⟩ HX.out _ HOW.out HGR.out ⟨by omega, by omega, by omega, by omega, by omega⟩⟩⟩
  case done =>
    rintro D xs W hD hS ⟨v', hI⟩ hK
    obtain ⟨so, sn, sc, rfl, hsn⟩ := own_shape hI.own
    have c1 := (cell1 hI.box).1
    have c2 := (cell1 hI.fin).1
    have HII := Lib.hid hI
    have HS := Lib.hid hS
    clear hI hS
    gi_wp2
    refine wpIn_wide.2 ?_
    go_quiet (fail)
    gi_wp2
    refine ⟨by simp, .inl ⟨_, _, rfl, run_takeDeferred hK, ?_⟩⟩
    refine ⟨_, results_tmp2 rfl _ _ _, ?_⟩
    have hb1 := HII.out.own
    refine ⟨.slice so sn sc, ?_, ?_, ?_⟩
    · show Ending.returned (.tuple #[.slice so sn sc, .int .i64 (endOf xs : Nat)]) = _
      rw [HS.out.2]
    · refine ⟨xs.map (fun i => (i.v, i.x)), ?_, ?_, ?_⟩
      · rw [List.map_map, ← HS.out.1]; rfl
      · have h0 : (W.drewN nq).ownsRow (w.heap.size + 4) 39 1 (.slice so sn sc) xs.length (xs.map Itm.v) := HII.out.own
        have h1 := ownsRow_putObj h0 (.deferred none) (show (W.drewN nq).heap[D]? = _ from hK) rfl
        rw [List.length_map, List.map_map]
        exact h1.base (by omega)
      · intro i hi
        obtain ⟨j, hj, rfl⟩ := List.mem_map.1 hi
        have h0 : (W.drewN nq).ownsRow (w.heap.size + 4) 5 1 j.v j.x.length (bcells j.x) := HII.out.items j hj
        exact (ownsRow_putObj h0 (.deferred none) (show (W.drewN nq).heap[D]? = _ from hK) rfl).base (by omega)
    · have k1 := HII.out.kp.drew nq
      refine ⟨k1.os, k1.tape, k1.output, by simpa [World.putObj] using k1.size, fun k hk hn => ?_⟩
      exact (World.putObj_heap_other (by omega)).trans (k1.block k hk hn)
  case stop =>
    rintro D c pre W _ _ h _
    exact h.elim
end Go.Proofs.YtdabflkejhoghaaGreat.Hand
