/- fill: the document's Print, by hand. -/
import Derived.Test.YtjbghpkdehikfaaDoorProg
import Derived.Below
import Derived.Deep.Draws
import Derived.Deep.AppendLies
import Derived.Maps.AppendAt
import Derived.OwnWalk
import Derived.Laws.BytesArg
import Derived.Laws.MakeOwn
import Derived.Laws.OwnMore
import Derived.Deep.OwnRows
import Derived.Tactics
import Derived.Lib.ConvBytes
import Derived.Laws.Slices
import Derived.WalkKit
import Derived.KernelRfl
import Derived.RowKit3
import Derived.Deep.LoopGhost
import Derived.Deep.QuietTactic
import Derived.BigQuiet
import Derived.WideLaws
import Derived.Deep.DeepCutAuto
import Derived.Deep.CutBlock
import Derived.Deep.RegionHeld3
import Derived.Laws.Rows
import Derived.Lib.AppendStr
import Derived.ArgAppend
import Derived.Laws.IdiomCopy
import Derived.OrdersHeld
import Derived.Laws.BitsLemmas
import Derived.RowKit
import Derived.Test.YtjbghpkdehikfaaDoorWWords
import Derived.Test.YtjbghpkdehikfaaDoorWLast
import Derived.Test.YtjbghpkdehikfaaDoorWTab
import Derived.Test.YtjbghpkdehikfaaDoorWFour
import Derived.Test.YtjbghpkdehikfaaDoorWQPut
import Derived.Test.YtjbghpkdehikfaaDoorWApart
import Derived.Test.YtjbghpkdehikfaaDoorWArr
import Derived.Test.YtjbghpkdehikfaaDoorWZeros
import Derived.Test.YtjbghpkdehikfaaDoorWFoot
import Derived.Test.YtjbghpkdehikfaaDoorWKept
import Derived.Test.YtjbghpkdehikfaaDoorWShare
import Derived.Test.YtjbghpkdehikfaaDoorWN
import Derived.Test.YtjbghpkdehikfaaDoorWFootNe
import Derived.Test.YtjbghpkdehikfaaDoorWAt
import Derived.Test.YtjbghpkdehikfaaDoorWEqStruct
import Derived.Test.YtjbghpkdehikfaaDoorWRepsOne
import Derived.Test.YtjbghpkdehikfaaDoorWInv
import Derived.Test.YtjbghpkdehikfaaDoorWInvWords
import Derived.Test.YtjbghpkdehikfaaDoorWGuard
import Derived.Test.YtjbghpkdehikfaaDoorWNEv
import Derived.Test.YtjbghpkdehikfaaDoorWMore
import Derived.Outline
import Derived.Deep.QuietTactic
import Derived.BigQuiet
import Derived.Test.YtjbghpkdehikfaaDoorHRefE
import Derived.Test.YtjbghpkdehikfaaDoorHPure
import Derived.Test.YtjbghpkdehikfaaDoorHEsc
namespace Go.Proofs.YtjbghpkdehikfaaDoor.Hand
open Go.RowKit Go.Shelf Go.Proofs.YtjbghpkdehikfaaDoorW.PrintWords Go.Proofs.YtjbghpkdehikfaaDoorW.PrintLast Go.Proofs.YtjbghpkdehikfaaDoorW.PrintMore
set_option linter.unusedVariables false
set_option linter.unusedSimpArgs false
theorem esc_any (G : ByteArray) (hG : G.size ≤ 1000000) (w : World) : Calls Tryd.prog 27 #[.string G] w fun e w' => e = .returned (.string ⟨(escR (bl G)).toArray⟩) ∧ ∃ m, w' = w.drewN m := by
  have hl : (bl G).length = G.size := by simp [bl]
  have := refEscape (bl G) w (by omega)
  rw [bl_mk] at this
  exact this
theorem printR_one (q : Pr) : printR [q] = pieceR q := by simp [printR, Lib.join]
theorem printR_snoc {α : Type} (g : α → ByteArray × ByteArray) (l : List α) (k : Nat) (h : k < l.length) :
    printR ((l.take (k + 1)).map (prOf ∘ g)) = (if k = 0 then [] else printR ((l.take k).map (prOf ∘ g)) ++ [38]) ++ pieceR (prOf (g (l[k]'h))) := by
  rw [List.take_succ_eq_append_getElem h, List.map_append]
  by_cases h0 : k = 0
  · subst h0
    rw [if_pos rfl, List.take_zero, List.map_nil, List.nil_append, List.nil_append]
    exact printR_one _
  · have hne : (l.take k).map (prOf ∘ g) ≠ [] := by
      intro e
      have h3 := congrArg List.length e
      rw [List.length_map, List.length_take, List.length_nil] at h3
      omega
    rw [if_neg h0, printR_app _ _ hne (by simp)]
    exact congrArg _ (printR_one _)
theorem printR_len {α : Type} (g : α → ByteArray × ByteArray) (l : List α) (M : Nat) (h : ∀ x ∈ l, (g x).1.size ≤ M ∧ (g x).2.size ≤ M) (k : Nat) : (printR ((l.take k).map (prOf ∘ g))).length ≤ l.length * (6 * M + 2) := by
  unfold printR
  refine Nat.le_trans (join_len _ (6 * M + 1) (fun p hp => ?_)) ?_
  · obtain ⟨q, hq, rfl⟩ := List.mem_map.1 hp
    obtain ⟨x, hx, rfl⟩ := List.mem_map.1 hq
    have h1 := h x (List.mem_of_mem_take hx)
    have e1 : (bl (g x).1).length = (g x).1.size := by simp [bl]
    have e2 : (bl (g x).2).length = (g x).2.size := by simp [bl]
    have h2 := escR_len (bl (g x).1)
    have h3 := escR_len (bl (g x).2)
    show (escR (bl (g x).1) ++ [61] ++ escR (bl (g x).2)).length ≤ _
    simp only [List.length_append, List.length_cons, List.length_nil]
    omega
  · simp only [List.length_map, List.length_take]
    exact Nat.mul_le_mul_right _ (Nat.min_le_right _ _)
set_option maxHeartbeats 6400000 in
set_option maxRecDepth 100000 in
theorem refPrint {α : Type} (g : α → ByteArray × ByteArray) (A : Option Addr) (c : Nat) (l : List α) (w : World) (hC : Kd.C (PK g) w A l.length l) (hl : l.length ≤ 10000) (hs : ∀ x ∈ l, (g x).1.size ≤ 10000 ∧ (g x).2.size ≤ 10000)
    (L : List UInt8) (hL : printR (l.map (prOf ∘ g)) = L) :
    Calls Tryd.prog 21 #[.slice A l.length c] w fun e w' => ∃ b c', e = .returned (.slice (some ⟨b, 0, none⟩) L.length c') ∧ Bys w'.heap.size w' (some ⟨b, 0, none⟩) L ∧ Below w.heap.size w w' := by
  have hPl : ∀ k, (printR ((l.take k).map (prOf ∘ g))).length ≤ 1000000000 := fun k => by
    have := printR_len g l 10000 hs k
    have h2 : l.length * (6 * 10000 + 2) ≤ 10000 * (6 * 10000 + 2) := Nat.mul_le_mul_right _ hl
    omega
  go_enter Tryd.func21, Tryd.ntmps21
  go_wp2
  go_loopw [3, 4] (fun v i wr => ∃ (k : Nat) (P : List UInt8), k ≤ l.length ∧ i = .int .i64 k ∧ v = .string ⟨P.toArray⟩ ∧ Aside0 (P = printR ((l.take k).map (prOf ∘ g))) ∧ Aside0 (Below w.heap.size w wr)) (fun _ i _ => l.length - (intOf i).toNat)
  case atStart => exact ⟨0, [], by omega, rfl, rfl, ⟨rfl⟩, ⟨Below.refl _ _⟩⟩
  case round =>
    obtain ⟨k, P, hk, rfl, rfl, HP, HB⟩ := hrel
    by_cases hlt : k < l.length
    · have hne : l ≠ [] := by intro h; rw [h] at hlt; simp at hlt
      obtain ⟨b, o, hA, hb, hcells⟩ := pk_at hC hne
      subst hA
      obtain ⟨h1, h2⟩ := hcells k hlt
      obtain ⟨x, hx⟩ : ∃ x, l[k]'hlt = x := ⟨_, rfl⟩
      have hxs := hs x (hx ▸ List.getElem_mem hlt)
      have hsn := printR_snoc g l k hlt
      have hPk := hPl k
      rw [← HP.out] at hsn hPk
      rw [hx] at h1 h2 hsn
      replace h1 := (HB.out.cell (p := ⟨b, o + k * 2, none⟩) hb).trans h1
      replace h2 := (HB.out.cell (p := ⟨b, o + k * 2 + 1, none⟩) hb).trans h2
      obtain ⟨G1, hG1⟩ : ∃ G1, (g x).1 = G1 := ⟨_, rfl⟩
      obtain ⟨G2, hG2⟩ : ∃ G2, (g x).2 = G2 := ⟨_, rfl⟩
      rw [hG1] at h1 hxs
      rw [hG2] at h2 hxs
      have e1 : wrap64 ((k : Int) + 1) = (k : Int) + 1 := by unfold wrap64; omega
      obtain ⟨E1, hE1⟩ : ∃ E1, escR (bl G1) = E1 := ⟨_, rfl⟩
      obtain ⟨E2, hE2⟩ : ∃ E2, escR (bl G2) = E2 := ⟨_, rfl⟩
      have z1 : E1.length ≤ 30000 := by have := escR_len (bl G1); have e : (bl G1).length = G1.size := by simp [bl]
                                        rw [hE1] at this; omega
      have z2 : E2.length ≤ 30000 := by have := escR_len (bl G2); have e : (bl G2).length = G2.size := by simp [bl]
                                        rw [hE2] at this; omega
      have c1 : ∀ X, Calls Tryd.prog 27 #[.string G1] X fun e w' => e = .returned (.string ⟨E1.toArray⟩) ∧ ∃ m, w' = X.drewN m := fun X => hE1 ▸ esc_any G1 (by omega) X
      have c2 : ∀ X, Calls Tryd.prog 27 #[.string G2] X fun e w' => e = .returned (.string ⟨E2.toArray⟩) ∧ ∃ m, w' = X.drewN m := fun X => hE2 ▸ esc_any G2 (by omega) X
      have hpc : pieceR (prOf (g x)) = E1 ++ [61] ++ E2 := by simp [pieceR, prOf, hG1, hG2, hE1, hE2]
      rw [hpc] at hsn
      have i0 : (0 : Int) ≤ (k : Int) := by omega
      have i1 : (k : Int) < (l.length : Int) := by omega
      by_cases h0 : k = 0
      · have d0 : decide ((0 : Int) < (k : Int)) = false := decide_eq_false (by omega)
        have d0' : decide (0 < k) = false := decide_eq_false (by omega)
        rw [if_pos h0] at hsn
        have HP2 := Aside0.mk (show P = [] by rw [HP.out, h0]; rfl)
        have HS := Aside0.mk (show (⟨P.toArray⟩ : ByteArray) ++ ⟨E1.toArray⟩ ++ ⟨#[61]⟩ ++ ⟨E2.toArray⟩ = ⟨(printR ((l.take (k + 1)).map (prOf ∘ g))).toArray⟩ by rw [hsn, HP2.out]; exact bl_is (by simp))
        have y1 : (9223372036854775807 < P.length + E1.length) = False := eq_false (by omega)
        have y2 : (9223372036854775807 < P.length + E1.length + 1) = False := eq_false (by omega)
        have y3 : (9223372036854775807 < P.length + E1.length + 1 + E2.length) = False := eq_false (by omega)
        clear hcells hC hs hPl hG1 hG2 hE1 hE2 hxs hx hpc hsn hPk h0 HP2
        go_upto_region 7 with fail
        go_region_with (first
          | (go_at_call 27; ((with_reducible refine (c2 _).mono ?_); rintro e w2 ⟨rfl, m2, rfl⟩))
          | (go_at_call 27; ((with_reducible refine (c1 _).mono ?_); rintro e w1 ⟨rfl, m1, rfl⟩)))
        all_goals go_wp2
        all_goals go_roundw
        all_goals first
          | (simp [intOf]; omega)
          | exact ⟨k + 1, _, by omega, by go_num, by rw [HS.out], ⟨rfl⟩, ⟨by repeat (first | (with_reducible first | exact HB.out | apply below_alloc | apply pw_below_drewN | apply below_drew1) | exact HB.out)⟩⟩
          | exact ⟨k + 1, _, by omega, by go_num, by rw [HS.out], ⟨rfl⟩, ⟨by repeat (first | (with_reducible first | exact HB.out | apply below_alloc | apply pw_below_drewN | apply below_drew1) | exact HB.out)⟩⟩
      · have d0 : decide ((0 : Int) < (k : Int)) = true := decide_eq_true (by omega)
        have d0' : decide (0 < k) = true := decide_eq_true (by omega)
        rw [if_neg h0] at hsn
        have HS := Aside0.mk (show (⟨P.toArray⟩ : ByteArray) ++ ⟨#[38]⟩ ++ ⟨E1.toArray⟩ ++ ⟨#[61]⟩ ++ ⟨E2.toArray⟩ = ⟨(printR ((l.take (k + 1)).map (prOf ∘ g))).toArray⟩ by rw [hsn]; exact bl_is (by simp))
        have y0 : (9223372036854775807 < P.length + 1) = False := eq_false (by omega)
        have y1 : (9223372036854775807 < P.length + 1 + E1.length) = False := eq_false (by omega)
        have y2 : (9223372036854775807 < P.length + 1 + E1.length + 1) = False := eq_false (by omega)
        have y3 : (9223372036854775807 < P.length + 1 + E1.length + 1 + E2.length) = False := eq_false (by omega)
        clear hcells hC hs hPl hG1 hG2 hE1 hE2 hxs hx hpc hsn hPk
        go_upto_region 7 with fail
        go_region_with (first
          | (go_at_call 27; ((with_reducible refine (c2 _).mono ?_); rintro e w2 ⟨rfl, m2, rfl⟩))
          | (go_at_call 27; ((with_reducible refine (c1 _).mono ?_); rintro e w1 ⟨rfl, m1, rfl⟩)))
        all_goals go_wp2
        all_goals go_roundw
        all_goals first
          | (simp [intOf]; omega)
          | exact ⟨k + 1, _, by omega, by go_num, by rw [HS.out], ⟨rfl⟩, ⟨by repeat (first | (with_reducible first | exact HB.out | apply below_alloc | apply pw_below_drewN | apply below_drew1) | exact HB.out)⟩⟩
          | exact ⟨k + 1, _, by omega, by go_num, by rw [HS.out], ⟨rfl⟩, ⟨by repeat (first | (with_reducible first | exact HB.out | apply below_alloc | apply pw_below_drewN | apply below_drew1) | exact HB.out)⟩⟩
    · have hke : k = l.length := by omega
      subst hke
      have HP' := HP.out
      rw [List.take_length, hL] at HP'
      subst HP'
      obtain ⟨W, d, hrun, hcl, hsz, hbl⟩ := conv P wr
      go_wp2
      go_ret
      exact ⟨_, _, rfl, .inr ⟨_, rfl, by show wr.heap.size < _; omega, fun j hj => by
        rw [show (⟨wr.heap.size, 0, none⟩ : Addr).add j = ⟨wr.heap.size, j, none⟩ by unfold Addr.add; split <;> simp_all]
        exact hcl j hj⟩, HB.out.trans (hbl.mono HB.out.size)⟩
end Go.Proofs.YtjbghpkdehikfaaDoor.Hand
