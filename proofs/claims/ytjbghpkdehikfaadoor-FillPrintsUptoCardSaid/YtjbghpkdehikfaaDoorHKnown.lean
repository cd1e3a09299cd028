/- fill: Get, and the chapter's example. -/
import Derived.Test.YtjbghpkdehikfaaDoorProg
import Derived.Below
import Derived.Deep.Draws
import Derived.Deep.AppendLies
import Derived.Maps.AppendAt
import Derived.OwnWalk
import Derived.Laws.BytesArg
import Derived.Laws.MakeOwn
import Derived.Laws.OwnMore
import Derived.Deep.OwnRows
import Derived.Tactics
import Derived.Lib.ConvBytes
import Derived.Laws.Slices
import Derived.WalkKit
import Derived.KernelRfl
import Derived.RowKit3
import Derived.Deep.LoopGhost
import Derived.Deep.QuietTactic
import Derived.BigQuiet
import Derived.WideLaws
import Derived.Deep.DeepCutAuto
import Derived.Deep.CutBlock
import Derived.Deep.RegionHeld3
import Derived.Laws.Rows
import Derived.Lib.AppendStr
import Derived.ArgAppend
import Derived.Laws.IdiomCopy
import Derived.OrdersHeld
import Derived.Laws.BitsLemmas
import Derived.RowKit
import Derived.Test.YtjbghpkdehikfaaDoorWWords
import Derived.Test.YtjbghpkdehikfaaDoorWLast
import Derived.Test.YtjbghpkdehikfaaDoorWTab
import Derived.Test.YtjbghpkdehikfaaDoorWFour
import Derived.Test.YtjbghpkdehikfaaDoorWQPut
import Derived.Test.YtjbghpkdehikfaaDoorWApart
import Derived.Test.YtjbghpkdehikfaaDoorWArr
import Derived.Test.YtjbghpkdehikfaaDoorWZeros
import Derived.Test.YtjbghpkdehikfaaDoorWFoot
import Derived.Test.YtjbghpkdehikfaaDoorWKept
import Derived.Test.YtjbghpkdehikfaaDoorWShare
import Derived.Test.YtjbghpkdehikfaaDoorWN
import Derived.Test.YtjbghpkdehikfaaDoorWFootNe
import Derived.Test.YtjbghpkdehikfaaDoorWAt
import Derived.Test.YtjbghpkdehikfaaDoorWEqStruct
import Derived.Test.YtjbghpkdehikfaaDoorWRepsOne
import Derived.Test.YtjbghpkdehikfaaDoorWInv
import Derived.Test.YtjbghpkdehikfaaDoorWInvWords
import Derived.Test.YtjbghpkdehikfaaDoorWGuard
import Derived.Test.YtjbghpkdehikfaaDoorWNEv
import Derived.Test.YtjbghpkdehikfaaDoorWMore
import Derived.Outline
import Derived.BigRegion
import Derived.Lib.SlBytesConst
import Derived.Test.YtjbghpkdehikfaaDoorHCon
namespace Go.Proofs.YtjbghpkdehikfaaDoor.Hand
open Go.RowKit Go.Shelf Go.Proofs.YtjbghpkdehikfaaDoorW.PrintWords Go.Proofs.YtjbghpkdehikfaaDoorW.PrintLast Go.Proofs.YtjbghpkdehikfaaDoorW.PrintMore
set_option linter.unusedVariables false
set_option linter.unusedSimpArgs false
/-- Get, as a fold -/
def getG (x : List UInt8) : List Pr → Int → List UInt8 → Int × List UInt8
  | [], n, v => (n, v)
  | p :: ps, n, v => if p.1 = x then getG x ps (n + 1) p.2 else getG x ps n v
/-- pairs that can be read at block g -/
def At (g : Nat) (w : World) (ps : List Pr) : Prop := ∀ j (hj : j < ps.length), w.cell? ⟨g, j * 2, none⟩ = some (.string ⟨(ps[j]'hj).1.toArray⟩) ∧ w.cell? ⟨g, j * 2 + 1, none⟩ = some (.string ⟨(ps[j]'hj).2.toArray⟩)
theorem pcells_at (ps : List Pr) : ∀ j (hj : j < ps.length), (pcells ps)[j * 2]? = some (.string ⟨(ps[j]'hj).1.toArray⟩) ∧ (pcells ps)[j * 2 + 1]? = some (.string ⟨(ps[j]'hj).2.toArray⟩) := by
  induction ps with
  | nil => intro j hj; simp at hj
  | cons p ps ih =>
    intro j hj
    cases j with
    | zero => simp [pcells]
    | succ j =>
      have := ih j (by simpa using hj)
      have e : pcells (p :: ps) = [.string ⟨p.1.toArray⟩, .string ⟨p.2.toArray⟩] ++ pcells ps := rfl
      rw [e, List.getElem?_append_right (by simp; omega), List.getElem?_append_right (by simp; omega)]
      simp only [List.length_cons, List.length_nil, List.getElem_cons_succ]
      rw [show (j + 1) * 2 - (0 + 1 + 1) = j * 2 by omega, show (j + 1) * 2 + 1 - (0 + 1 + 1) = j * 2 + 1 by omega]
      exact this
theorem OwnP.at {B : Nat} {w : World} {v : Value} {ps : List Pr} (h : OwnP B w v ps) (hne : ps ≠ []) : ∃ g c, v = .slice (some ⟨g, 0, none⟩) ps.length c ∧ B ≤ g ∧ g < w.heap.size ∧ At g w ps := by
  rcases h.1.2 with ⟨rfl, h0⟩ | ⟨g, cap, cur, rfl, hb, hg, _, _, _, htk⟩
  · exact absurd (List.length_eq_zero_iff.1 h0) hne
  · refine ⟨g, cap, rfl, hb, (Array.getElem?_eq_some_iff.1 hg).1, fun j hj => ?_⟩
    have hp := pcells_at ps j hj
    rw [← htk] at hp
    rw [Lib.cell_of_heap hg, Lib.cell_of_heap hg]
    have e : ∀ (i : Nat) (u : Value), (cur.toList.take (ps.length * 2))[i]? = some u → cur[i]? = some u := by
      intro i u hi
      rw [List.getElem?_take] at hi
      split at hi
      · simpa using hi
      · cases hi
    exact ⟨e _ _ hp.1, e _ _ hp.2⟩
theorem At.below {g : Nat} {w X : World} {ps : List Pr} (h : At g w ps) (hg : g < w.heap.size) (hb : Below w.heap.size w X) : At g X ps :=
  fun j hj => ⟨(hb.cell (p := ⟨g, j * 2, none⟩) hg).trans (h j hj).1, (hb.cell (p := ⟨g, j * 2 + 1, none⟩) hg).trans (h j hj).2⟩

def getO (x : List UInt8) (ps : List Pr) : List UInt8 × Bool := (if (getG x ps 0 []).1 = 1 then (getG x ps 0 []).2 else [], decide ((getG x ps 0 []).1 = 1))
set_option maxHeartbeats 1600000 in
set_option maxRecDepth 100000 in
theorem get (g c : Nat) (ps : List Pr) (x : List UInt8) (w : World) (hg : g < w.heap.size) (hA : At g w ps) (hl : ps.length < 4611686018427387904) :
    Calls Tryd.prog 16 #[.slice (some ⟨g, 0, none⟩) ps.length c, .string ⟨x.toArray⟩] w fun e w' =>
      e = .returned (.tuple #[.string ⟨(getO x ps).1.toArray⟩, .bool (getO x ps).2]) ∧ Below w.heap.size w w' := by
  go_enter Tryd.func16, Tryd.ntmps16
  go_wp2
  go_loopw [6, 7, 9, 12] (fun n v p i wr => ∃ (k : Nat) (m : Int) (u : List UInt8), k ≤ ps.length ∧ i = .int .i64 k ∧ n = .int .i64 m ∧ v = .string ⟨u.toArray⟩ ∧ 0 ≤ m ∧ m ≤ k ∧ Aside0 (getG x (ps.drop k) m u = getG x ps 0 []) ∧ Aside0 (Below w.heap.size w wr)) (fun _ _ _ i _ => ps.length - (intOf i).toNat)
  case atStart => exact ⟨0, 0, [], by omega, rfl, rfl, rfl, by omega, by omega, ⟨rfl⟩, ⟨Below.refl _ _⟩⟩
  case round =>
    obtain ⟨k, m, u, hk, rfl, rfl, rfl, hm0, hm1, HG, HB⟩ := hrel
    by_cases hlt : k < ps.length
    · have hA2 := (hA.below hg HB.out) k hlt
      obtain ⟨h1, h2⟩ := hA2
      obtain ⟨p1, hp1⟩ : ∃ p1, (ps[k]'hlt).1 = p1 := ⟨_, rfl⟩
      obtain ⟨p2, hp2⟩ : ∃ p2, (ps[k]'hlt).2 = p2 := ⟨_, rfl⟩
      rw [hp1] at h1
      rw [hp2] at h2
      have hd : ps.drop k = (p1, p2) :: ps.drop (k + 1) := by
        rw [List.drop_eq_getElem_cons hlt, ← hp1, ← hp2]
      have HG' := Aside0.mk (show (if p1 = x then getG x (ps.drop (k + 1)) (m + 1) p2 else getG x (ps.drop (k + 1)) m u) = getG x ps 0 [] by rw [← HG.out, hd]; rfl)
      clear hd hp1 hp2 HG
      by_cases hx : p1 = x
      · rw [if_pos hx] at HG'
        have e1 : ((⟨p1.toArray⟩ : ByteArray).toList == (⟨x.toArray⟩ : ByteArray).toList) = true := by rw [hx]; exact beq_self_eq_true _
        have e2 : (p1 == x) = true := by rw [hx]; exact beq_self_eq_true _
        have e3 : wrap64 (m + 1) = m + 1 := by unfold wrap64; omega
        have e4 : wrap64 ((k : Int) + 1) = (k : Int) + 1 := by unfold wrap64; omega
        clear hx
        go_upto_region 6 with fail
        go_region
        all_goals go_wp2
        all_goals go_roundw
        all_goals first
          | (simp [intOf]; omega)
          | exact ⟨k + 1, m + 1, p2, by omega, by go_num, rfl, rfl, by omega, by omega, HG', ⟨by repeat (first | exact HB.out | apply below_alloc | apply below_drew1)⟩⟩
      · rw [if_neg hx] at HG'
        have hne : ((⟨p1.toArray⟩ : ByteArray).toList == (⟨x.toArray⟩ : ByteArray).toList) = false := by
          rw [beq_eq_false_iff_ne, Lib.toList_data, Lib.toList_data]
          exact hx
        have e2 : (p1 == x) = false := beq_eq_false_iff_ne.2 hx
        have e4 : wrap64 ((k : Int) + 1) = (k : Int) + 1 := by unfold wrap64; omega
        clear hx
        go_wp2
        go_roundw
        case rel => exact ⟨k + 1, m, u, by omega, by go_num, rfl, rfl, by omega, by omega, HG', ⟨by repeat (first | exact HB.out | apply below_alloc | apply below_drew1)⟩⟩
        case measure => simp [intOf]; omega
    · have hke : k = ps.length := by omega
      have hG := Aside0.mk (show getG x ps 0 [] = (m, u) by rw [← HG.out, hke, List.drop_length]; rfl)
      clear HG
      by_cases hm : m = 1
      · subst hm
        have hO := Aside0.mk (show getO x ps = (u, true) by unfold getO; rw [hG.out]; rfl)
        go_wp2
        go_ret2
        exact ⟨by rw [hO.out]; rfl, HB.out⟩
      · have e1 : (m != 1) = true := bne_iff_ne.2 hm
        have hO := Aside0.mk (show getO x ps = ([], false) by unfold getO; rw [hG.out]; show (if m = 1 then u else [], decide (m = 1)) = _; rw [if_neg hm, decide_eq_false hm])
        clear hm
        go_wp2
        go_ret2
        exact ⟨by rw [hO.out]; rfl, HB.out⟩

/-- the example's bytes -/
def kb : List UInt8 := [97, 61, 49, 43, 50, 38, 98, 61, 37, 50, 54]
theorem kb_parse : parseR kb = ([([97], [49, 32, 50]), ([98], [38])], 0) := by decide +kernel
theorem kb_esc : escR [97, 32, 98, 47] = [97, 43, 98, 37, 50, 70] := by decide +kernel
theorem kb_cells (w : World) : ∀ j (hj : j < kb.length), (w.alloc (.cells #[.int .u8 97, .int .u8 61, .int .u8 49, .int .u8 43, .int .u8 50, .int .u8 38, .int .u8 98, .int .u8 61, .int .u8 37, .int .u8 50, .int .u8 54] 5 (11, 12))).cell? ⟨w.heap.size, j, none⟩ = some (.int .u8 ((kb[j]'hj).toNat : Int)) := by
  intro j hj
  rw [Lib.cell_of_heap (al_new w _ _ rfl)]
  have hj' : j < 11 := hj
  have : j = 0 ∨ j = 1 ∨ j = 2 ∨ j = 3 ∨ j = 4 ∨ j = 5 ∨ j = 6 ∨ j = 7 ∨ j = 8 ∨ j = 9 ∨ j = 10 := by omega
  rcases this with rfl | rfl | rfl | rfl | rfl | rfl | rfl | rfl | rfl | rfl | rfl <;> rfl
set_option maxHeartbeats 1600000 in
set_option maxRecDepth 100000 in
theorem known (w : World) : Calls Tryd.prog 10 #[] w fun e w' => e = .returned (.bool true) ∧ Below w.heap.size w w' := by
  have cP : ∀ (g : Nat) (W : World), (∀ j (hj : j < kb.length), W.cell? ⟨g, j, none⟩ = some (.int .u8 ((kb[j]'hj).toNat : Int))) → g < W.heap.size →
      Calls Tryd.prog 17 #[.slice (some ⟨g, 0, none⟩) 11 11] W fun e w' => ∃ g' c, e = .returned (.tuple #[.slice (some ⟨g', 0, none⟩) 2 c, .int .u16 0]) ∧ W.heap.size ≤ g' ∧ g' < w'.heap.size ∧ At g' w' [([97], [49, 32, 50]), ([98], [38])] ∧ Below W.heap.size W w' := by
    intro g W hc hg
    have hB : Bys W.heap.size W (some ⟨g, 0, none⟩) kb := .inr ⟨_, rfl, hg, fun j hj => by
      rw [show (⟨g, 0, none⟩ : Addr).add j = ⟨g, j, none⟩ by unfold Addr.add; split <;> simp_all]
      exact hc j hj⟩
    refine (parse (some ⟨g, 0, none⟩) 11 kb W (fun X hX => (hB.below hX).conv 11) (by decide)).mono ?_
    rw [kb_parse]
    rintro e w' ⟨v, rfl, ho, hb⟩
    obtain ⟨g', c', rfl, h1, h2, h3⟩ := ho.at (by simp)
    exact ⟨g', c', rfl, h1, h2, h3, hb⟩
  have cE : ∀ W : World, Calls Tryd.prog 23 #[.string ⟨#[97, 32, 98, 47]⟩] W fun e w' => e = .returned (.string ⟨#[97, 43, 98, 37, 50, 70]⟩) ∧ Below W.heap.size W w' := by
    intro W
    have := escape [97, 32, 98, 47] W (by decide)
    rwa [kb_esc] at this
  have hcc : (convert 22 22 (.slice (some ⟨w.heap.size, 0, none⟩) 11 11)).run Tryd.prog (w.alloc (.cells #[.int .u8 97, .int .u8 61, .int .u8 49, .int .u8 43, .int .u8 50, .int .u8 38, .int .u8 98, .int .u8 61, .int .u8 37, .int .u8 50, .int .u8 54] 5)) = .ok (.slice (some ⟨w.heap.size, 0, none⟩) 11 11) (w.alloc (.cells #[.int .u8 97, .int .u8 61, .int .u8 49, .int .u8 43, .int .u8 50, .int .u8 38, .int .u8 98, .int .u8 61, .int .u8 37, .int .u8 50, .int .u8 54] 5 (11, 12))) := Lib.run_convert_bytes_const w 22 5 #[.int .u8 97, .int .u8 61, .int .u8 49, .int .u8 43, .int .u8 50, .int .u8 38, .int .u8 98, .int .u8 61, .int .u8 37, .int .u8 50, .int .u8 54] 11 11 Tryd.underlying22 Tryd.underlying5
  have cG : ∀ (g c : Nat) (W : World), g < W.heap.size → At g W [([97], [49, 32, 50]), ([98], [38])] → Calls Tryd.prog 16 #[.slice (some ⟨g, 0, none⟩) 2 c, .string ⟨#[97]⟩] W fun e w' => e = .returned (.tuple #[.string ⟨#[49, 32, 50]⟩, .bool true]) ∧ Below W.heap.size W w' :=
    fun g c W h1 h2 => get g c [([97], [49, 32, 50]), ([98], [38])] [97] W h1 h2 (by decide)
  go_enter Tryd.func10, Tryd.ntmps10
  go_wp2_with (first
    | (go_at_call 17; ((with_reducible refine (cP w.heap.size _ ?c1 ?c2).mono ?_); (case c1 => exact kb_cells w); (case c2 => simp); rintro e w1 ⟨g', c', rfl, hg1, hg2, hat, hb1⟩; have hA := Aside0.mk hat; have HB1 := Aside0.mk hb1))
    | (go_at_call 16; ((with_reducible refine (cG g' c' _ hg2 hA.out).mono ?_); rintro e w2 ⟨rfl, hb2⟩; have HB2 := Aside0.mk (HB1.out.trans (hb2.mono HB1.out.size)); have hA2 := (hA.out.below hg2 hb2) 1 (by decide); obtain ⟨q0, q1⟩ := hA2))
    | (go_at_call 23; ((with_reducible refine (cE _).mono ?_); rintro e w3 ⟨rfl, hb3⟩; have HB3 := Aside0.mk (HB2.out.trans (hb3.mono HB2.out.size)))))
  go_ret
  exact ⟨rfl, ((Below.refl w.heap.size w).alloc (Nat.le_refl _) _).trans (HB3.out.mono (by simp))⟩
def wicketmanlaw07_known.f : Option Bool := some true
theorem wicketmanlaw07_known.calls (r : Bool) (w : World) (h : wicketmanlaw07_known.f = some r) : Calls Tryd.prog 10 #[] w fun e w' => e = .returned (.bool r) ∧ Below w.heap.size w w' := by
  cases h
  exact known w
end Go.Proofs.YtjbghpkdehikfaaDoor.Hand
