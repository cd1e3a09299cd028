/- fill: Print. -/
import Derived.Test.YtjbghpkdehikfaaDoorProg
import Derived.Below
import Derived.Deep.Draws
import Derived.Deep.AppendLies
import Derived.Maps.AppendAt
import Derived.OwnWalk
import Derived.Laws.BytesArg
import Derived.Laws.MakeOwn
import Derived.Laws.OwnMore
import Derived.Deep.OwnRows
import Derived.Tactics
import Derived.Lib.ConvBytes
import Derived.Laws.Slices
import Derived.WalkKit
import Derived.KernelRfl
import Derived.RowKit3
import Derived.Deep.LoopGhost
import Derived.Deep.QuietTactic
import Derived.BigQuiet
import Derived.WideLaws
import Derived.Deep.DeepCutAuto
import Derived.Deep.CutBlock
import Derived.Deep.RegionHeld3
import Derived.Laws.Rows
import Derived.Lib.AppendStr
import Derived.ArgAppend
import Derived.Laws.IdiomCopy
import Derived.OrdersHeld
import Derived.Laws.BitsLemmas
import Derived.RowKit
import Derived.Test.YtjbghpkdehikfaaDoorWWords
import Derived.Test.YtjbghpkdehikfaaDoorWLast
import Derived.Test.YtjbghpkdehikfaaDoorWTab
import Derived.Test.YtjbghpkdehikfaaDoorWFour
import Derived.Test.YtjbghpkdehikfaaDoorWQPut
import Derived.Test.YtjbghpkdehikfaaDoorWApart
import Derived.Test.YtjbghpkdehikfaaDoorWArr
import Derived.Test.YtjbghpkdehikfaaDoorWZeros
import Derived.Test.YtjbghpkdehikfaaDoorWFoot
import Derived.Test.YtjbghpkdehikfaaDoorWKept
import Derived.Test.YtjbghpkdehikfaaDoorWShare
import Derived.Test.YtjbghpkdehikfaaDoorWN
import Derived.Test.YtjbghpkdehikfaaDoorWFootNe
import Derived.Test.YtjbghpkdehikfaaDoorWAt
import Derived.Test.YtjbghpkdehikfaaDoorWEqStruct
import Derived.Test.YtjbghpkdehikfaaDoorWRepsOne
import Derived.Test.YtjbghpkdehikfaaDoorWInv
import Derived.Test.YtjbghpkdehikfaaDoorWInvWords
import Derived.Test.YtjbghpkdehikfaaDoorWGuard
import Derived.Test.YtjbghpkdehikfaaDoorWNEv
import Derived.Test.YtjbghpkdehikfaaDoorWMore
import Derived.Outline
import Derived.BigRegion
import Derived.Deep.RegionHeld3
import Derived.Deep.AppendLies
import Derived.Test.YtjbghpkdehikfaaDoorHManyA
namespace Go.Proofs.YtjbghpkdehikfaaDoor.Hand
open Go.RowKit Go.Shelf Go.Proofs.YtjbghpkdehikfaaDoorW.PrintWords Go.Proofs.YtjbghpkdehikfaaDoorW.PrintLast Go.Proofs.YtjbghpkdehikfaaDoorW.PrintMore
set_option linter.unusedVariables false
set_option linter.unusedSimpArgs false
/-- one pair, written -/
def pieceR (p : Pr) : List UInt8 := escR p.1 ++ [61] ++ escR p.2
/-- the pairs, written -/
def printR (ps : List Pr) : List UInt8 := Lib.join (ps.map pieceR) [38]
/-- a printer's pair, as lists -/
def prOf (q : ByteArray × ByteArray) : Pr := (bl q.1, bl q.2)
abbrev PK {α : Type} (g : α → ByteArray × ByteArray) : Kd α := Kd.iso (Kd.pair Kd.string Kd.string) g
theorem pk_at {α : Type} {g : α → ByteArray × ByteArray} {w : World} {A : Option Addr} {l : List α} (h : Kd.C (PK g) w A l.length l) (hne : l ≠ []) :
    ∃ b o, A = some ⟨b, o, none⟩ ∧ b < w.heap.size ∧ ∀ j (hj : j < l.length), w.cell? ⟨b, o + j * 2, none⟩ = some (.string (g (l[j]'hj)).1) ∧ w.cell? ⟨b, o + j * 2 + 1, none⟩ = some (.string (g (l[j]'hj)).2) := by
  obtain ⟨ad, rfl, hc⟩ := h.2.2 (List.length_pos_iff.2 hne)
  have hcell : ∀ j (hj : j < l.length), w.cell? (ad.add (j * 2)) = some (.string (g (l[j]'hj)).1) ∧ w.cell? (ad.add (j * 2 + 1)) = some (.string (g (l[j]'hj)).2) := by
    intro j hj
    obtain ⟨c, hlen, hk, hcl⟩ := hc j _ (List.getElem?_eq_getElem hj)
    obtain ⟨c0, c1, rfl, h0, h1⟩ := hk
    have h0' : c0 = [.string (g (l[j]'hj)).1] := h0
    have h1' : c1 = [.string (g (l[j]'hj)).2] := h1
    subst h0' h1'
    exact ⟨hcl 0 _ rfl, hcl 1 _ rfl⟩
  obtain ⟨x, xs, rfl⟩ : ∃ x xs, l = x :: xs := by cases l with | nil => exact absurd rfl hne | cons x xs => exact ⟨_, _, rfl⟩
  have h0 := (hcell 0 (by simp)).1
  have hadd : ad.add (0 * 2) = ad := by simp [Addr.add]
  rw [hadd] at h0
  obtain ⟨b, o, sp⟩ := ad
  have hsp : sp = none := by
    cases sp with
    | none => rfl
    | some k => simp [World.cell?] at h0; cases hh : w.heap[b]? with
      | none => rw [hh] at h0; cases h0
      | some ob => rw [hh] at h0; cases ob <;> cases h0
  subst hsp
  have hb : b < w.heap.size := by
    rcases Nat.lt_or_ge b w.heap.size with h' | h'
    · exact h'
    · simp [World.cell?, Array.getElem?_eq_none h'] at h0
  refine ⟨b, o, rfl, hb, fun j hj => ?_⟩
  have := hcell j hj
  rwa [show (⟨b, o, none⟩ : Addr).add (j * 2) = ⟨b, o + j * 2, none⟩ by unfold Addr.add; split <;> simp_all, show (⟨b, o, none⟩ : Addr).add (j * 2 + 1) = ⟨b, o + j * 2 + 1, none⟩ by unfold Addr.add; split <;> simp_all; omega] at this
theorem info9s : (Tryd.prog.info? 9).map (fun i => (i.zero, i.size, i.bytes)) = some (some (.string ⟨#[]⟩), 1, 16) := by kernel_rfl

theorem own_bel {B : Nat} {e : TypeId} {sz n : Nat} {v : Value} {xs : List Value} {W W' : World} (h : W.ownsRow B e sz v n xs) (hb : Below W.heap.size W W') : W'.ownsRow B e sz v n xs :=
  h.kept (row := none) ⟨hb.os, hb.tape, hb.output, hb.size, fun k hk _ => hb.block k hk⟩ (by cases v.ownBlock <;> simp)
theorem cells_bel {q : Nat} {W W' : World} {u v : Value} (h : W.cell? ⟨q, 0, none⟩ = some u ∧ W.cell? ⟨q, 1, none⟩ = some v) (hq : q < W.heap.size) (hb : Below W.heap.size W W') : W'.cell? ⟨q, 0, none⟩ = some u ∧ W'.cell? ⟨q, 1, none⟩ = some v :=
  ⟨(hb.cell (p := ⟨q, 0, none⟩) hq).trans h.1, (hb.cell (p := ⟨q, 1, none⟩) hq).trans h.2⟩
theorem join_len (xs : List (List UInt8)) (M : Nat) (h : ∀ p ∈ xs, p.length ≤ M) : (Lib.join xs [38]).length ≤ xs.length * (M + 1) := by
  cases xs with
  | nil => simp [Lib.join_nil]
  | cons x xs =>
    rw [Lib.join_cons]
    have ht : ∀ r : List (List UInt8), (∀ p ∈ r, p.length ≤ M) → (Lib.joinTail [38] r).length ≤ r.length * (M + 1) := by
      intro r
      induction r with
      | nil => intro _; simp [Lib.joinTail]
      | cons y r ih =>
        intro hr
        have h1 := hr y (by simp)
        have h2 := ih (fun p hp => hr p (by simp [hp]))
        simp only [Lib.joinTail, List.map_cons, List.flatten_cons, List.length_append, List.length_cons, List.length_nil] at h2 ⊢
        rw [Nat.add_mul]
        omega
    have h1 := h x (by simp)
    have h2 := ht xs (fun p hp => h p (by simp [hp]))
    simp only [List.length_append, List.length_cons]
    rw [Nat.add_mul]
    omega
theorem cells_far {q : Nat} {W X : World} {o : Obj} {u v y : Value} (h : W.cell? ⟨q, 0, none⟩ = some u ∧ W.cell? ⟨q, 1, none⟩ = some v) (hq : q < W.heap.size) (hne : y.ownBlock = some q → False) (hg : (W.alloc o).grownBy X y.ownBlock) : X.cell? ⟨q, 0, none⟩ = some u ∧ X.cell? ⟨q, 1, none⟩ = some v := by
  have hb := (Below.refl W.heap.size W).alloc (Nat.le_refl _) o
  refine ⟨?_, ?_⟩
  · rw [hg.cell_far _ (by simp; omega) (fun e => hne e.symm)]; exact (hb.cell (p := ⟨q, 0, none⟩) hq).trans h.1
  · rw [hg.cell_far _ (by simp; omega) (fun e => hne e.symm)]; exact (hb.cell (p := ⟨q, 1, none⟩) hq).trans h.2
set_option maxHeartbeats 3200000 in
set_option maxRecDepth 100000 in
theorem print {α : Type} (g : α → ByteArray × ByteArray) (A : Option Addr) (c : Nat) (l : List α) (w : World) (hC : Kd.C (PK g) w A l.length l) (hl : l.length ≤ 1000000)
    (hs : ∀ x ∈ l, 3 * (bl (g x).1).length < 1000000 ∧ 3 * (bl (g x).2).length < 1000000) :
    Calls Tryd.prog 20 #[.slice A l.length c] w fun e w' => ∃ b c', e = .returned (.slice (some ⟨b, 0, none⟩) (printR (l.map (prOf ∘ g))).length c') ∧ w.heap.size ≤ b ∧ b < w'.heap.size ∧
      (∀ j (hj : j < (printR (l.map (prOf ∘ g))).length), w'.cell? ⟨b, j, none⟩ = some (.int .u8 (((printR (l.map (prOf ∘ g)))[j]'hj).toNat : Int))) ∧ Below w.heap.size w w' := by
  obtain ⟨i0, hi, hz0, hz1, hz2⟩ := info_parts info9s
  go_enter Tryd.func20, Tryd.ntmps20
  go_wp2
  go_loopw [3, 5, 8] (fun v p i wr => ∃ k : Nat, k ≤ l.length ∧ i = .int .i64 k ∧ Aside0 (wr.ownsRow w.heap.size 9 1 v k ((l.take k).map fun x => .string ⟨(pieceR (prOf (g x))).toArray⟩)) ∧ Aside0 (Below w.heap.size w wr)) (fun _ _ i _ => l.length - (intOf i).toNat)
  case atStart => exact ⟨0, by omega, rfl, ⟨World.ownsRow_nil _ _ _ _⟩, ⟨Below.refl _ _⟩⟩
  case round =>
    obtain ⟨k, hk, rfl, hown, HB⟩ := hrel
    by_cases hlt : k < l.length
    · have hne : l ≠ [] := by intro h; rw [h] at hlt; simp at hlt
      obtain ⟨b, o, hA, hb, hcells⟩ := pk_at hC hne
      subst hA
      obtain ⟨h1, h2⟩ := hcells k hlt
      obtain ⟨x, hx⟩ : ∃ x, l[k]'hlt = x := ⟨_, rfl⟩
      have hxs := hs x (hx ▸ List.getElem_mem hlt)
      rw [hx] at h1 h2
      replace h1 := (HB.out.cell (p := ⟨b, o + k * 2, none⟩) hb).trans h1
      replace h2 := (HB.out.cell (p := ⟨b, o + k * 2 + 1, none⟩) hb).trans h2
      obtain ⟨G1, hG1⟩ : ∃ G1, (g x).1 = G1 := ⟨_, rfl⟩
      obtain ⟨G2, hG2⟩ : ∃ G2, (g x).2 = G2 := ⟨_, rfl⟩
      rw [hG1] at h1 hxs
      rw [hG2] at h2 hxs
      have e1 : wrap64 ((k : Int) + 1) = (k : Int) + 1 := by unfold wrap64; omega
      have cE : ∀ (G : ByteArray), 3 * (bl G).length < 1000000 → ∃ E, (escR (bl G)) = E ∧ E.length ≤ 1000000 ∧ ∀ W, Calls Tryd.prog 23 #[.string G] W fun e w' => e = .returned (.string ⟨E.toArray⟩) ∧ Below W.heap.size W w' := by
        intro G hG
        refine ⟨_, rfl, by have := escR_len (bl G); omega, fun W => ?_⟩
        have := escape (bl G) W (by omega)
        rwa [bl_mk] at this
      obtain ⟨E1, hE1, z1, c1⟩ := cE G1 hxs.1
      obtain ⟨E2, hE2, z2, c2⟩ := cE G2 hxs.2
      have hpc := Aside0.mk (show (⟨E1.toArray⟩ : ByteArray) ++ ⟨#[61]⟩ ++ ⟨E2.toArray⟩ = ⟨(pieceR (prOf (g x))).toArray⟩ from bl_is (by simp [pieceR, prOf, hG1, hG2, hE1, hE2]))
      have hsz : wr.heap.size < (wr.alloc (.cells #[.string G1, .string G2] 32)).heap.size := by simp
      have hc0 := Aside0.mk (show (wr.alloc (.cells #[.string G1, .string G2] 32)).drew.cell? ⟨wr.heap.size, 0, none⟩ = some (.string G1) ∧ (wr.alloc (.cells #[.string G1, .string G2] 32)).drew.cell? ⟨wr.heap.size, 1, none⟩ = some (.string G2) from
        ⟨(Lib.cell_of_heap (w := (wr.alloc (.cells #[.string G1, .string G2] 32)).drew) (al_new wr _ _ rfl) 0), (Lib.cell_of_heap (w := (wr.alloc (.cells #[.string G1, .string G2] 32)).drew) (al_new wr _ _ rfl) 1)⟩)
      have hBa := Aside0.mk (HB.out.alloc HB.out.size (.cells #[.string G1, .string G2] 32))
      have hoA := Aside0.mk (hown.out.alloc (.cells #[.string G1, .string G2] 32))
      have y1 : (9223372036854775807 < E1.length + 1) = False := eq_false (by omega)
      have y2 : (9223372036854775807 < E1.length + 1 + E2.length) = False := eq_false (by omega)
      have hfar := Aside0.mk (fun e => Nat.lt_irrefl _ ((hown.out.lt wr.heap.size e).2))
      clear cE hxs hG1 hG2 hE1 hE2 hcells hC hs
      go_upto_region 5 with fail
      go_region_held3 (fun w' => w'.cell? ⟨wr.heap.size, 0, none⟩ = some (.string G1) ∧ w'.cell? ⟨wr.heap.size, 1, none⟩ = some (.string G2))
        (first
          | go_keep
          | exact hcw2.out
          | exact hcw1.out
          | exact hcw3 hgrow
          | (go_split_ands; exact hcw2.out)
          | (go_split_ands; exact hcw1.out)
          | (go_split_ands; exact hcw3 hgrow))
        (first
          | (go_at_call 23; ((with_reducible refine (c1 _).mono ?_); rintro e w1 ⟨rfl, hb⟩; have hb1 := Aside0.mk hb; clear hb; have hq1 : wr.heap.size < (wr.alloc (.cells #[.string G1, .string G2] 32)).drew.heap.size := hsz; have hcw1 := Aside0.mk (cells_bel hc0.out hq1 hb1.out); have hB1 := Aside0.mk (hBa.out.drew.trans (hb1.out.mono hBa.out.size)); have ho1 := Aside0.mk (own_bel (W := (wr.alloc (.cells #[.string G1, .string G2] 32)).drew) hoA.out hb1.out)))
          | (go_at_call 23; ((with_reducible refine (c2 _).mono ?_); rintro e w2 ⟨rfl, hb⟩; have hb2 := Aside0.mk hb; clear hb; have hq2 : wr.heap.size < w1.heap.size := Nat.lt_of_lt_of_le hsz hb1.out.size; have hq3 : wr.heap.size < w2.heap.size := Nat.lt_of_lt_of_le hq2 hb2.out.size; have hcw2 := Aside0.mk (cells_bel hcw1.out hq2 hb2.out); have hcw3 := fun {o : Obj} {X : World} (h : (w2.alloc o).grownBy X _) => cells_far hcw2.out hq3 hfar.out h; have hB2 := Aside0.mk (hB1.out.trans (hb2.out.mono hB1.out.size)); have ho2 := Aside0.mk (own_bel ho1.out hb2.out)))
          | (refine step_append_lies _ (by rfl) _ _ _ (by rfl) w.heap.size 9 i0 _ 1 16 Tryd.underlying51 hi hz0 hz1 hz2 rfl (by omega) _ k _ (by rfl) (ho2.out.alloc _)
              ⟨w2.heap.size, 0, none⟩ 1 1 [.string (⟨E1.toArray⟩ ++ ⟨#[61]⟩ ++ ⟨E2.toArray⟩)] (by rfl) (by rfl) (World.news_of_block (cs := #[.string (⟨E1.toArray⟩ ++ ⟨#[61]⟩ ++ ⟨E2.toArray⟩)]) (t := 9) (fr := (0, 0)) (heap_alloc_new w2 _)) (by simp [Value.oneCell'])
              (by omega) (by unfold maxLen; omega) (by omega) (by have := hB2.out.size; simp; omega) (w2.heap.size + 1) (by simp) ?_; intro gg cap w3 hown3 hgrow hat hlt3))
      have HB3 := Aside0.mk ((hB2.out.alloc hB2.out.size _).grown hgrow (by have := hB2.out.size; simp; omega) (fun j e => (hown.out.lt j e).1))
      have ho3 := Aside0.mk hown3
      clear hown3 hgrow hat hcw3 hcw2 hcw1 hc0 hoA ho1 ho2
      go_wp2
      go_roundw
      case rel =>
        refine ⟨k + 1, by omega, by go_num, ⟨?_⟩, HB3⟩
        have := ho3.out
        rw [hpc.out] at this
        rw [List.take_succ_eq_append_getElem hlt, List.map_append, hx]
        exact this
      case measure => simp [intOf]; omega
    · have hke : k = l.length := by omega
      subst hke
      have hown' := hown.out
      rw [List.take_length] at hown'
      obtain ⟨J, hJ⟩ : ∃ J, printR (l.map (prOf ∘ g)) = J := ⟨_, rfl⟩
      have hJl : J.length ≤ 100000000000000 := by
        rw [← hJ]
        refine Nat.le_trans (join_len _ 2000001 (fun p hp => ?_)) ?_
        · obtain ⟨q, hq, rfl⟩ := List.mem_map.1 hp
          obtain ⟨x, hx, rfl⟩ := List.mem_map.1 hq
          have h1 := hs x hx
          have h2 := escR_len (prOf (g x)).1
          have h3 := escR_len (prOf (g x)).2
          simp only [Function.comp, prOf] at h2 h3 ⊢
          simp only [pieceR, List.length_append, List.length_cons, List.length_nil]
          omega
        · simp; omega
      have cJ := Aside0.mk (show Calls Tryd.prog 35 #[u3, .string ⟨#[38]⟩] wr fun e w' => e = .returned (.string ⟨J.toArray⟩) ∧ Below wr.heap.size wr w' by
        rcases hown'.2 with ⟨hv, h0⟩ | ⟨gb, cap, cur, hv, hbase, hgb, hcap, hmax, hsz, htk⟩
        · subst hv
          have hnil : l = [] := List.length_eq_zero_iff.1 h0
          subst hnil
          refine (Tryd.strings_Join_none none 0 ⟨#[38]⟩ wr).mono ?_
          rintro e w' ⟨rfl, rfl⟩
          exact ⟨by rw [← hJ]; rfl, Below.refl _ _⟩
        · subst hv
          have hcells : ∀ (j : Nat) y, (l.map fun x => (⟨(pieceR (prOf (g x))).toArray⟩ : ByteArray))[j]? = some y → wr.cell? ⟨gb, 0 + j, none⟩ = some (.string y) := by
            intro j y hj
            rw [List.getElem?_map] at hj
            obtain ⟨x, hx, rfl⟩ := Option.map_eq_some_iff.1 hj
            rw [Lib.cell_of_heap hgb, Nat.zero_add]
            have e : (cur.toList.take (l.length * 1))[j]? = some (.string ⟨(pieceR (prOf (g x))).toArray⟩) := by rw [htk, List.getElem?_map, hx]; rfl
            rw [List.getElem?_take] at e
            split at e
            · simpa using e
            · cases e
          have hmm : (l.map fun x => (⟨(pieceR (prOf (g x))).toArray⟩ : ByteArray)).map (·.data.toList) = (l.map (prOf ∘ g)).map pieceR := by simp
          have := Tryd.strings_Join gb 0 cap (l.map fun x => (⟨(pieceR (prOf (g x))).toArray⟩ : ByteArray)) ⟨#[38]⟩ wr hcells (Array.getElem?_eq_some_iff.1 hgb).1 (by simp; omega) (by simpa using hcap) (by rw [hmm]; show (printR (l.map (prOf ∘ g))).length ≤ _; rw [hJ]; omega)
          rw [hmm, List.length_map] at this
          rw [← hJ]
          exact this)
      have hJ' := Aside0.mk hJ
      clear hown' hown hs hC hJ
      go_wp2_with (go_at_call 35; ((with_reducible refine cJ.out.mono ?_); rintro e w1 ⟨rfl, hb⟩; have HB1 := Aside0.mk (HB.out.trans (hb.mono HB.out.size)); clear hb; obtain ⟨W, c', hrun, hcl, hsz, hbw⟩ := conv J w1; have hW := Aside0.mk (And.intro hcl (And.intro hsz (HB1.out.trans (hbw.mono HB1.out.size)))); clear hcl hsz hbw))
      go_ret
      obtain ⟨h1, h2, h3⟩ := hW.out
      refine ⟨w1.heap.size, c', by rw [hJ'.out]; rfl, HB1.out.size, by omega, fun j hj => ?_, h3⟩
      simp only [hJ'.out] at hj ⊢
      exact h1 j hj
end Go.Proofs.YtjbghpkdehikfaaDoor.Hand
