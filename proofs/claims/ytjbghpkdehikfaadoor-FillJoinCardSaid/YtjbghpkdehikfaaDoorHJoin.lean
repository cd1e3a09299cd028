/- fill: FillJoin's walk. -/
import Derived.Test.YtjbghpkdehikfaaDoorProg
import Derived.Below
import Derived.Deep.Draws
import Derived.Deep.AppendLies
import Derived.Maps.AppendAt
import Derived.OwnWalk
import Derived.Laws.BytesArg
import Derived.Laws.MakeOwn
import Derived.Laws.OwnMore
import Derived.Deep.OwnRows
import Derived.Tactics
import Derived.Lib.ConvBytes
import Derived.Laws.Slices
import Derived.WalkKit
import Derived.KernelRfl
import Derived.RowKit3
import Derived.Deep.LoopGhost
import Derived.Deep.QuietTactic
import Derived.BigQuiet
import Derived.WideLaws
import Derived.Deep.DeepCutAuto
import Derived.Deep.CutBlock
import Derived.Deep.RegionHeld3
import Derived.Laws.Rows
import Derived.Lib.AppendStr
import Derived.ArgAppend
import Derived.Laws.IdiomCopy
import Derived.OrdersHeld
import Derived.Laws.BitsLemmas
import Derived.RowKit
import Derived.Test.YtjbghpkdehikfaaDoorWWords
import Derived.Test.YtjbghpkdehikfaaDoorWLast
import Derived.Test.YtjbghpkdehikfaaDoorWTab
import Derived.Test.YtjbghpkdehikfaaDoorWFour
import Derived.Test.YtjbghpkdehikfaaDoorWQPut
import Derived.Test.YtjbghpkdehikfaaDoorWApart
import Derived.Test.YtjbghpkdehikfaaDoorWArr
import Derived.Test.YtjbghpkdehikfaaDoorWZeros
import Derived.Test.YtjbghpkdehikfaaDoorWFoot
import Derived.Test.YtjbghpkdehikfaaDoorWKept
import Derived.Test.YtjbghpkdehikfaaDoorWShare
import Derived.Test.YtjbghpkdehikfaaDoorWN
import Derived.Test.YtjbghpkdehikfaaDoorWFootNe
import Derived.Test.YtjbghpkdehikfaaDoorWAt
import Derived.Test.YtjbghpkdehikfaaDoorWEqStruct
import Derived.Test.YtjbghpkdehikfaaDoorWRepsOne
import Derived.Test.YtjbghpkdehikfaaDoorWInv
import Derived.Test.YtjbghpkdehikfaaDoorWInvWords
import Derived.Test.YtjbghpkdehikfaaDoorWGuard
import Derived.Test.YtjbghpkdehikfaaDoorWNEv
import Derived.Test.YtjbghpkdehikfaaDoorWMore
import Derived.Outline
import Derived.BigRegion
import Derived.Deep.RegionHeld3
import Derived.Deep.AppendLies
import Derived.Test.YtjbghpkdehikfaaDoorPureFillJoin
import Derived.Test.YtjbghpkdehikfaaDoorHRows
namespace Go.Proofs.YtjbghpkdehikfaaDoor.Hand
open Go.RowKit Go.Shelf Go.Proofs.YtjbghpkdehikfaaDoorW.PrintWords Go.Proofs.YtjbghpkdehikfaaDoorW.PrintLast Go.Proofs.YtjbghpkdehikfaaDoorW.PrintMore
open Go.Proofs.YtjbghpkdehikfaaDoor.PFillJoin
set_option linter.unusedVariables false
set_option linter.unusedSimpArgs false
abbrev gJ : S32 → ByteArray × ByteArray := fun x => (x.f0, x.f1)
theorem mk_gJ (l : List S32) : (l.map (prOf ∘ gJ)).map HandP.mkS = l := by
  rw [List.map_map]
  conv => rhs; rw [← List.map_id l]
  apply List.map_congr_left
  intro x _
  show HandP.mkS (bl x.f0, bl x.f1) = x
  unfold HandP.mkS
  simp only [bl_mk]
theorem join_names (l : List S32) (h : Pure.Small l) : ∀ p ∈ l.map (prOf ∘ gJ), p.1 ≠ [] := by
  intro p hp
  obtain ⟨x, hx, rfl⟩ := List.mem_map.1 hp
  intro e
  have h1 := (h x hx).1
  have h2 : (bl x.f0).length = x.f0.size := by simp [bl]
  have h3 : (bl x.f0).length = 0 := by rw [show bl x.f0 = [] from e]; rfl
  omega
theorem small_len (l : List S32) (h : Pure.Small l) : ∀ x ∈ l, 3 * (bl (gJ x).1).length < 1000000 ∧ 3 * (bl (gJ x).2).length < 1000000 := by
  intro x hx
  have := h x hx
  have h2 : (bl x.f0).length = x.f0.size := by simp [bl]
  have h3 : (bl x.f1).length = x.f1.size := by simp [bl]
  exact ⟨by show 3 * (bl x.f0).length < _; omega, by show 3 * (bl x.f1).length < _; omega⟩
theorem print_len (l : List S32) (hl : l.length ≤ 20) (h : Pure.Small l) : (printR (l.map (prOf ∘ gJ))).length ≤ 100000 := by
  refine Nat.le_trans (join_len _ 2000 (fun p hp => ?_)) (by simp; omega)
  obtain ⟨q, hq, rfl⟩ := List.mem_map.1 hp
  obtain ⟨x, hx, rfl⟩ := List.mem_map.1 hq
  have h1 := h x hx
  have e1 : (bl x.f0).length = x.f0.size := by simp [bl]
  have e2 : (bl x.f1).length = x.f1.size := by simp [bl]
  have h2 := escR_len (bl x.f0)
  have h3 := escR_len (bl x.f1)
  show (escR (bl x.f0) ++ [61] ++ escR (bl x.f1)).length ≤ 2000
  simp only [List.length_append, List.length_cons, List.length_nil]
  omega
theorem bys_at (b : Nat) (l : List UInt8) (W : World) (hb : b < W.heap.size) (hc : ∀ j (hj : j < l.length), W.cell? ⟨b, j, none⟩ = some (.int .u8 ((l[j]'hj).toNat : Int))) : Bys W.heap.size W (some ⟨b, 0, none⟩) l :=
  .inr ⟨_, rfl, hb, fun j hj => by
    rw [show (⟨b, 0, none⟩ : Addr).add j = ⟨b, j, none⟩ by unfold Addr.add; split <;> simp_all]
    exact hc j hj⟩
set_option maxHeartbeats 6400000 in
set_option maxRecDepth 100000 in
theorem join (A0 : Option Addr) (c0 : Nat) (l0 : List Int) (A1 : Option Addr) (c1 : Nat) (l1 : List Int) (w : World)
    (hr0 : Kd.C (Kd.int .u8) w A0 l0.length l0) (hc0 : l0.length ≤ c0) (hb0 : Pure.BytesI l0) (hr1 : Kd.C (Kd.int .u8) w A1 l1.length l1) (hc1 : l1.length ≤ c1) (hb1 : Pure.BytesI l1) :
    Calls Tryd.prog 9 #[.slice A0 l0.length c0, .slice A1 l1.length c1] w fun e w' => e = .returned (.bool true) ∧ Below w.heap.size w w' := by
  obtain ⟨i0, hi, hz0, hz1, hz2⟩ := info_parts infoP
  obtain ⟨p, hp, hpl, hps⟩ := Pure.pairs_f l0 hb0 100 (by omega)
  obtain ⟨q, hq, hql, hqs⟩ := Pure.pairs_f l1 hb1 100 (by omega)
  have cP : ∀ W, Below w.heap.size w W → Calls Tryd.prog 15 #[.slice A0 l0.length c0] W fun e w' => ∃ A c, e = .returned (.slice A p.length c) ∧ w'.ownsRow W.heap.size 32 2 (.slice A p.length c) p.length (pcG gJ p) ∧ Below W.heap.size W w' := fun W hW => by
    refine (wicketmanlaw07_Pairs.calls 100 A0 c0 l0 p W (Kd.C_below hr0 hW) hc0 hp).mono ?_
    rintro e w' ⟨v, rfl, hR, hb⟩
    obtain ⟨A, c, rfl, _, _⟩ := Kd.R_reads hR
    exact ⟨A, c, rfl, own_of (g := gJ) hR, hb⟩
  have cQ : ∀ W, Below w.heap.size w W → Calls Tryd.prog 15 #[.slice A1 l1.length c1] W fun e w' => ∃ A c, e = .returned (.slice A q.length c) ∧ w'.ownsRow W.heap.size 32 2 (.slice A q.length c) q.length (pcG gJ q) ∧ Below W.heap.size W w' := fun W hW => by
    refine (wicketmanlaw07_Pairs.calls 100 A1 c1 l1 q W (Kd.C_below hr1 hW) hc1 hq).mono ?_
    rintro e w' ⟨v, rfl, hR, hb⟩
    obtain ⟨A, c, rfl, _, _⟩ := Kd.R_reads hR
    exact ⟨A, c, rfl, own_of (g := gJ) hR, hb⟩
  have HW := Aside0.mk (Below.refl w.heap.size w)
  clear hr0 hr1 hc0 hc1
  by_cases hz : p.length = 0 ∨ q.length = 0
  · by_cases hz1' : p.length = 0
    · have e1 : ((p.length : Int) == 0) = true := by rw [hz1']; rfl
      clear hz hz1'
      go_enter Tryd.func9, Tryd.ntmps9
      go_wp2_with (first
        | (go_at_call 15; first
            | ((with_reducible refine (cQ _ HB1.out).mono ?_); rintro e w2 ⟨A', c', rfl, ho2, hb2⟩; have HB2 := Aside0.mk (HB1.out.trans (hb2.mono HB1.out.size)); clear ho2 hb2)
            | ((with_reducible refine (cP _ HW.out).mono ?_); rintro e w1 ⟨A, c, rfl, ho1, hb1⟩; have HB1 := Aside0.mk hb1; clear ho1 hb1))
        | (go_at_call 10; ((with_reducible refine (known _).mono ?_); rintro e w3 ⟨rfl, hb⟩; have HB3 := Aside0.mk (HB2.out.trans (hb.mono HB2.out.size)); clear hb)))
      go_ret
      exact ⟨rfl, HB3.out⟩
    · have e1 : ((p.length : Int) == 0) = false := beq_eq_false_iff_ne.2 (by omega)
      have e2 : ((q.length : Int) == 0) = true := by rw [show q.length = 0 by omega]; rfl
      clear hz hz1'
      go_enter Tryd.func9, Tryd.ntmps9
      go_wp2_with (first
        | (go_at_call 15; first
            | ((with_reducible refine (cQ _ HB1.out).mono ?_); rintro e w2 ⟨A', c', rfl, ho2, hb2⟩; have HB2 := Aside0.mk (HB1.out.trans (hb2.mono HB1.out.size)); clear ho2 hb2)
            | ((with_reducible refine (cP _ HW.out).mono ?_); rintro e w1 ⟨A, c, rfl, ho1, hb1⟩; have HB1 := Aside0.mk hb1; clear ho1 hb1))
        | (go_at_call 10; ((with_reducible refine (known _).mono ?_); rintro e w3 ⟨rfl, hb⟩; have HB3 := Aside0.mk (HB2.out.trans (hb.mono HB2.out.size)); clear hb)))
      go_ret
      exact ⟨rfl, HB3.out⟩
  · have n0 : 0 < p.length := by omega
    have m0 : 0 < q.length := by omega
    have e1 : ((p.length : Int) == 0) = false := beq_eq_false_iff_ne.2 (by omega)
    have e2 : ((q.length : Int) == 0) = false := beq_eq_false_iff_ne.2 (by omega)
    obtain ⟨L, hL⟩ : ∃ L, printR (p.map (prOf ∘ gJ)) = L := ⟨_, rfl⟩
    obtain ⟨M, hM⟩ : ∃ M, printR (q.map (prOf ∘ gJ)) = M := ⟨_, rfl⟩
    have hLl : L.length ≤ 100000 := hL ▸ print_len p (by omega) hps
    have hMl : M.length ≤ 100000 := hM ▸ print_len q (by omega) hqs
    have hpq : Pure.Small (p ++ q) := fun x hx => (List.mem_append.1 hx).elim (hps x) (hqs x)
    have hT : printR ((p ++ q).map (prOf ∘ gJ)) = L ++ [38] ++ M := by
      rw [List.map_append, printR_app _ _ (by intro e; simp at e; subst e; simp at n0) (by intro e; simp at e; subst e; simp at m0), hL, hM]
    obtain ⟨T, hT'⟩ : ∃ T, L ++ [38] ++ M = T := ⟨_, rfl⟩
    rw [hT'] at hT
    have hS := Aside0.mk (show (⟨L.toArray⟩ : ByteArray) ++ ⟨#[38]⟩ ++ ⟨M.toArray⟩ = ⟨T.toArray⟩ by rw [← hT']; exact bl_is (by simp))
    have hTl : T.length ≤ 300000 := by rw [← hT']; simp; omega
    have hpar := Aside0.mk (show parseR T = ((p ++ q).map (prOf ∘ gJ), 0) by rw [← hT]; exact parse_print _ (by simp; omega) (join_names _ hpq))
    have y1 : (9223372036854775807 < L.length + 1) = False := eq_false (by omega)
    have y2 : (9223372036854775807 < L.length + 1 + M.length) = False := eq_false (by omega)
    have cL : ∀ W A c, W.ownsRow w.heap.size 32 2 (.slice A p.length c) p.length (pcG gJ p) → Calls Tryd.prog 20 #[.slice A p.length c] W fun e w' => ∃ b c', e = .returned (.slice (some ⟨b, 0, none⟩) L.length c') ∧ Bys w'.heap.size w' (some ⟨b, 0, none⟩) L ∧ Below W.heap.size W w' :=
      fun W A c h => print_str (g := gJ) A c p W (own_C h).1 (by omega) (small_len p hps) L hL
    have cM : ∀ W A c, W.ownsRow w.heap.size 32 2 (.slice A q.length c) q.length (pcG gJ q) → Calls Tryd.prog 20 #[.slice A q.length c] W fun e w' => ∃ b c', e = .returned (.slice (some ⟨b, 0, none⟩) M.length c') ∧ Bys w'.heap.size w' (some ⟨b, 0, none⟩) M ∧ Below W.heap.size W w' :=
      fun W A c h => print_str (g := gJ) A c q W (own_C h).1 (by omega) (small_len q hqs) M hM
    have hlen : (p ++ q).length = p.length + q.length := by simp
    have cT : ∀ W A c, W.ownsRow w.heap.size 32 2 (.slice A (p.length + q.length) c) (p.length + q.length) (pcG gJ (p ++ q)) → Calls Tryd.prog 20 #[.slice A (p.length + q.length) c] W fun e w' => ∃ b c', e = .returned (.slice (some ⟨b, 0, none⟩) T.length c') ∧ Bys w'.heap.size w' (some ⟨b, 0, none⟩) T ∧ Below W.heap.size W w' :=
      fun W A c h => by rw [← hlen] at h ⊢; exact print_str (g := gJ) A c (p ++ q) W (own_C h).1 (by simp; omega) (small_len _ hpq) T hT
    have cX : ∀ (b c : Nat) (W : World), Bys W.heap.size W (some ⟨b, 0, none⟩) T → Calls Tryd.prog 17 #[.slice (some ⟨b, 0, none⟩) T.length c] W fun e w' => ∃ A c, e = .returned (.tuple #[.slice A (p.length + q.length) c, .int .u16 0]) ∧ w'.ownsRow W.heap.size 32 2 (.slice A (p.length + q.length) c) (p.length + q.length) (pcG gJ (p ++ q)) ∧ Below W.heap.size W w' := fun b c W hB => by
      refine (parse (some ⟨b, 0, none⟩) c T W (fun X hX => (hB.below hX).conv c) (by omega)).mono ?_
      rw [hpar.out]
      rintro e w' ⟨v, rfl, ho, hb⟩
      have hR := parse_rows (fun x : S32 => (x.f0, x.f1)) HandP.mkS (fun _ => rfl) ho
      rw [mk_gJ] at hR
      obtain ⟨A, c, rfl, _, _⟩ := Kd.R_reads hR
      rw [hlen] at hR ⊢
      have := own_of (g := gJ) hR
      rw [hlen] at this
      exact ⟨A, c, rfl, this, hb⟩
    have cS : ∀ (A A' : Option Addr) (c c' : Nat) (W : World) (B B' : Nat), W.ownsRow B 32 2 (.slice A (p.length + q.length) c) (p.length + q.length) (pcG gJ (p ++ q)) → W.ownsRow B' 32 2 (.slice A' (p.length + q.length) c') (p.length + q.length) (pcG gJ (p ++ q)) →
        Calls Tryd.prog 24 #[.slice A (p.length + q.length) c, .slice A' (p.length + q.length) c'] W fun e w' => e = .returned (.bool true) ∧ Below W.heap.size W w' := fun A A' c c' W B B' h h' => by
      rw [← hlen] at h h' ⊢
      refine (wicketmanref07_Same.calls 100 A c (p ++ q) A' c' (p ++ q) true W (own_C h).1 (own_C h).2 (own_C h').1 (own_C h').2 (Pure.same_f _ (by simp; omega) 100 (by simp; omega))).mono ?_
      rintro e w' ⟨rfl, hd⟩
      exact ⟨rfl, hd.below⟩
    clear hz hT hT' hL hM hps hqs hpq hpar hp hq
    go_enter Tryd.func9, Tryd.ntmps9
    go_upto_region 6 with (first
        | (go_at_call 15; first
            | ((with_reducible refine (cQ _ HB1.out).mono ?_); rintro e w2 ⟨A', c', rfl, ho2, hb2⟩; have HB2 := Aside0.mk (HB1.out.trans (hb2.mono HB1.out.size)); have hq2 := Aside0.mk (own_less ho2 HB1.out.size); have hp2 := Aside0.mk (own_bel hp1.out hb2); clear ho2 hb2)
            | ((with_reducible refine (cP _ HW.out).mono ?_); rintro e w1 ⟨A, c, rfl, ho1, hb1⟩; have HB1 := Aside0.mk hb1; have hp1 := Aside0.mk ho1; clear ho1 hb1)))
    obtain ⟨b1, c1', hv1, hb1b, hb1l, hc1, hcell1⟩ := own_sl hp2.out n0
    obtain ⟨b2, c2', hv2, hb2b, hb2l, hc2, hcell2⟩ := own_sl hq2.out m0
    injection hv1 with hA1 _ hC1
    injection hv2 with hA2 _ hC2
    subst hA1 hC1 hA2 hC2
    have hnil : w2.ownsRow w2.heap.size 32 2 (.slice none 0 0) 0 [] := World.ownsRow_nil _ _ _ _
    go_upto_region 7 with (at_builtin; refine wpList_append_own _ rfl _ _ 29 rfl w2.heap.size 32 i0 (.agg #[.string ⟨#[]⟩, .string ⟨#[]⟩]) 2 32 Tryd.underlying29 hi hz0 hz1 hz2 rfl (by decide) _ _ _ rfl hnil ⟨b1, 0, none⟩ p.length c (pcG gJ p) rfl (pcG_len p) hcell1 (pcG_one p) (by unfold maxLen; omega) (by omega) (Nat.le_refl _) ?_; intro v3 w3 hown3 hgrow3' _; have hgrow3 : w2.grownBy w3 none := hgrow3'; clear hgrow3')
    rw [Nat.zero_add, List.nil_append] at hown3
    obtain ⟨b3, c3, rfl, hb3b, hb3l, hc3, _⟩ := own_sl hown3 n0
    have HB3 := Aside0.mk (HB2.out.grown hgrow3 HB2.out.size (fun k e => by cases e))
    have hs23 := hgrow3.size
    have hp3 := Aside0.mk (hp2.out.kept hgrow3 (.inr (by simp [Value.ownBlock])))
    have hq3 := Aside0.mk (hq2.out.kept hgrow3 (.inr (by simp [Value.ownBlock])))
    have hcell2' := hq3.out.cells (g := b2) (by simp [Value.ownBlock])
    clear hcell1 hcell2 hgrow3 hnil hp1 hp2 hq2
    go_upto_region 8 with (at_builtin; refine wpList_append_own _ rfl _ _ 29 rfl w2.heap.size 32 i0 (.agg #[.string ⟨#[]⟩, .string ⟨#[]⟩]) 2 32 Tryd.underlying29 hi hz0 hz1 hz2 rfl (by decide) _ _ _ rfl hown3 ⟨b2, 0, none⟩ q.length c' (pcG gJ q) rfl (pcG_len q) hcell2' (pcG_one q) (by unfold maxLen; omega) (by omega) hs23 ?_; intro v4 w4 hown4 hgrow4' _; have hgrow4 : w3.grownBy w4 (some b3) := hgrow4'; clear hgrow4')
    rw [← pcG_app] at hown4
    obtain ⟨b4, c4, rfl, hb4b, hb4l, hc4, _⟩ := own_sl hown4 (by omega)
    have HB4 := Aside0.mk (HB3.out.grown hgrow4 HB3.out.size (fun k e => by cases e; have := HB2.out.size; omega))
    have hp4 := Aside0.mk (hp3.out.kept hgrow4 (.inr (by simp [Value.ownBlock]; omega)))
    have hq4 := Aside0.mk (hq3.out.kept hgrow4 (.inr (by simp [Value.ownBlock]; omega)))
    have ht4 := Aside0.mk (own_less hown4 HB2.out.size)
    clear hcell2' hgrow4 hown4 hown3 hp3 hq3 HB1 hb1b hb2b hb3b hb4b hb1l hb2l hb3l hb4l
    have HBd := Aside0.mk HB4.out.drew
    have hpd := Aside0.mk (show w4.drew.ownsRow w.heap.size 32 2 (.slice (some ⟨b1, 0, none⟩) p.length c) p.length (pcG gJ p) from hp4.out)
    have hqd := Aside0.mk (show w4.drew.ownsRow w.heap.size 32 2 (.slice (some ⟨b2, 0, none⟩) q.length c') q.length (pcG gJ q) from hq4.out)
    have htd := Aside0.mk (show w4.drew.ownsRow w.heap.size 32 2 (.slice (some ⟨b4, 0, none⟩) (p.length + q.length) c4) (p.length + q.length) (pcG gJ (p ++ q)) from ht4.out)
    clear HB4 hp4 hq4 ht4
    go_cut [8, 9] (fun x e wx => ∃ A8 c8, x = .slice A8 (p.length + q.length) c8 ∧ e = .int .u16 0 ∧ Aside0 (wx.ownsRow w.heap.size 32 2 (.slice A8 (p.length + q.length) c8) (p.length + q.length) (pcG gJ (p ++ q))) ∧ Aside0 (Below w.heap.size w wx) ∧ Aside0 (wx.ownsRow w.heap.size 32 2 (.slice (some ⟨b1, 0, none⟩) p.length c) p.length (pcG gJ p)) ∧
      Aside0 (wx.ownsRow w.heap.size 32 2 (.slice (some ⟨b2, 0, none⟩) q.length c') q.length (pcG gJ q)) ∧ Aside0 (wx.ownsRow w.heap.size 32 2 (.slice (some ⟨b4, 0, none⟩) (p.length + q.length) c4) (p.length + q.length) (pcG gJ (p ++ q))))
    case first =>
     go_region_with (first
      | (go_at_call 17; ((with_reducible refine (cX _ _ _ hX.out).mono ?_); rintro e w8 ⟨A8, c8, rfl, hx8, hb8⟩; have HB8 := Aside0.mk (HB7.out.trans (hb8.mono HB7.out.size)); have hp8 := Aside0.mk (own_bel hp7.out hb8); have hq8 := Aside0.mk (own_bel hq7.out hb8); have ht8 := Aside0.mk (own_bel ht7.out hb8); have hx8' := Aside0.mk hx8; clear hx8 hb8))
      | (go_at_call 20; ((with_reducible refine (cM _ _ _ hq5.out).mono ?_); rintro e w6 ⟨d2, k2, rfl, hby2, hb6⟩; have HB6 := Aside0.mk (HB5.out.trans (hb6.mono HB5.out.size)); have hp6 := Aside0.mk (own_bel hp5.out hb6); have hq6 := Aside0.mk (own_bel hq5.out hb6); have ht6 := Aside0.mk (own_bel ht5.out hb6); have hcv1' := (hby1'.out.below hb6).conv k1; have hcv2 := hby2.conv k2; obtain ⟨W7, k7, hrun7, hc7, hs7, hb7⟩ := conv T w6; rw [← hS.out] at hrun7; have hX := Aside0.mk (bys_at w6.heap.size T W7 (by omega) hc7); have HB7 := Aside0.mk (HB6.out.trans (hb7.mono HB6.out.size)); have hp7 := Aside0.mk (own_bel hp6.out hb7); have hq7 := Aside0.mk (own_bel hq6.out hb7); have ht7 := Aside0.mk (own_bel ht6.out hb7); clear hby2 hb6 hc7 hs7 hb7))
      | (go_at_call 20; ((with_reducible refine (cL _ _ _ hpd.out).mono ?_); rintro e w5 ⟨d1, k1, rfl, hby1, hb5⟩; have HB5 := Aside0.mk (HBd.out.trans (hb5.mono HBd.out.size)); have hp5 := Aside0.mk (own_bel hpd.out hb5); have hq5 := Aside0.mk (own_bel hqd.out hb5); have ht5 := Aside0.mk (own_bel htd.out hb5); have hcv1 := hby1.conv k1; have hby1' := Aside0.mk hby1; clear hby1 hb5)))
     all_goals go_wp2
     all_goals go_meet
     all_goals exact ⟨_, _, rfl, rfl, ⟨own_less hx8'.out HB7.out.size⟩, HB8, hp8, hq8, ht8⟩
    case rest =>
      obtain ⟨A8, c8, rfl, rfl, hx8, HB8, hp8, hq8, ht8⟩ := hcut
      clear HBd hpd hqd htd
      have hS' := hS.out
      have HBd := Aside0.mk HB8.out.drew
      have hxd := Aside0.mk (show wc.drew.ownsRow w.heap.size 32 2 (.slice A8 (p.length + q.length) c8) (p.length + q.length) (pcG gJ (p ++ q)) from hx8.out)
      have hpd := Aside0.mk (show wc.drew.ownsRow w.heap.size 32 2 (.slice (some ⟨b1, 0, none⟩) p.length c) p.length (pcG gJ p) from hp8.out)
      have hqd := Aside0.mk (show wc.drew.ownsRow w.heap.size 32 2 (.slice (some ⟨b2, 0, none⟩) q.length c') q.length (pcG gJ q) from hq8.out)
      have htd := Aside0.mk (show wc.drew.ownsRow w.heap.size 32 2 (.slice (some ⟨b4, 0, none⟩) (p.length + q.length) c4) (p.length + q.length) (pcG gJ (p ++ q)) from ht8.out)
      clear hx8 HB8 hp8 hq8 ht8
      go_upto_region 9 with fail
      go_region_with (first
        | (go_at_call 20; ((with_reducible refine (cM _ _ _ hq12.out).mono ?_); rintro e w13 ⟨d5, k5, rfl, hby5, hb13⟩; have HB13 := Aside0.mk (HB12.out.trans (hb13.mono HB12.out.size)); have g3 := (hby3'.out.below (hb12.out.trans (hb13.mono hb12.out.size))).conv k3; have g4 := (hby4'.out.below hb13).conv k4; have g5 := hby5.conv k5; clear hby5 hb13))
        | (go_at_call 20; ((with_reducible refine (cL _ _ _ hp11.out).mono ?_); rintro e w12 ⟨d4, k4, rfl, hby4, hb12'⟩; have hb12 := Aside0.mk hb12'; have HB12 := Aside0.mk (HB11.out.trans (hb12'.mono HB11.out.size)); have hq12 := Aside0.mk (own_bel hq11.out hb12'); have f3 := (hby3'.out.below hb12').conv k3; have f4 := hby4.conv k4; have hby4' := Aside0.mk hby4; clear hby4 hb12'))
        | (go_at_call 20; ((with_reducible refine (cT _ _ _ ht10.out).mono ?_); rintro e w11 ⟨d3, k3, rfl, hby3, hb11⟩; have HB11 := Aside0.mk (HB10.out.trans (hb11.mono HB10.out.size)); have hp11 := Aside0.mk (own_bel hp10.out hb11); have hq11 := Aside0.mk (own_bel hq10.out hb11); have e3 := hby3.conv k3; have hby3' := Aside0.mk hby3; clear hby3 hb11))
        | (go_at_call 24; ((with_reducible refine (cS _ _ _ _ _ _ _ hx9.out ht9.out).mono ?_); rintro e w10 ⟨rfl, hb10⟩; have HB10 := Aside0.mk (HB9.out.trans (hb10.mono HB9.out.size)); have hp10 := Aside0.mk (own_bel hp9.out hb10); have hq10 := Aside0.mk (own_bel hq9.out hb10); have ht10 := Aside0.mk (own_bel ht9.out hb10); clear hb10))
        | (go_at_call 10; ((with_reducible refine (known _).mono ?_); rintro e w9 ⟨rfl, hb9⟩; have HB9 := Aside0.mk (HBd.out.trans (hb9.mono HBd.out.size)); have hp9 := Aside0.mk (own_bel hpd.out hb9); have hq9 := Aside0.mk (own_bel hqd.out hb9); have ht9 := Aside0.mk (own_bel htd.out hb9); have hx9 := Aside0.mk (own_bel hxd.out hb9); clear hb9)))
      all_goals go_wp2
      all_goals go_ret
      all_goals exact ⟨by first | rfl | simp, HB13.out⟩
theorem fillJoin_row (a0 : Option Addr) (len0 cap0 : Nat) (z0 : List Int) (a1 : Option Addr) (len1 cap1 : Nat) (z1 : List Int) (w : World)
    (w0 : (a0 = none ∧ len0 = 0 ∧ cap0 = 0 ∧ z0 = []) ∨ ∃ x, a0 = some x ∧ len0 ≤ cap0 ∧ cap0 ≤ maxLen ∧ z0.length = cap0 ∧ (∀ i, i < z0.length → w.cell? (x.add i) = some (.int .u8 (z0.getD i 0))) ∧ ∀ n ∈ z0, (Lit.int .u8 n).wf = true) (y0 : len0 * 1 ≤ 140737488351232)
    (w1 : (a1 = none ∧ len1 = 0 ∧ cap1 = 0 ∧ z1 = []) ∨ ∃ x, a1 = some x ∧ len1 ≤ cap1 ∧ cap1 ≤ maxLen ∧ z1.length = cap1 ∧ (∀ i, i < z1.length → w.cell? (x.add i) = some (.int .u8 (z1.getD i 0))) ∧ ∀ n ∈ z1, (Lit.int .u8 n).wf = true) (y1 : len1 * 1 ≤ 140737488351232) :
    Calls Tryd.prog 9 #[.slice a0 len0 cap0, .slice a1 len1 cap1] w fun e w' => e = .returned (.bool true) ∧ Below w.heap.size w w' := by
  obtain ⟨l0, rfl, hr0, hm0, hw0, hc0⟩ := ReadsInt.ofRowC w0
  obtain ⟨l1, rfl, hr1, hm1, hw1, hc1⟩ := ReadsInt.ofRowC w1
  exact join a0 cap0 l0 a1 cap1 l1 w (Kd.C_of_reads (d := (0 : Int)) (h1 := fun _ => rfl) hr0) hc0 (Pure.bytes_of_wf hw0) (Kd.C_of_reads (d := (0 : Int)) (h1 := fun _ => rfl) hr1) hc1 (Pure.bytes_of_wf hw1)
end Go.Proofs.YtjbghpkdehikfaaDoor.Hand
