/- The sum of bytes; the number that bytes tell. -/
import Derived.Below
import Derived.Deep.Draws
import Derived.Deep.AppendLies
import Derived.Maps.AppendAt
import Derived.OwnWalk
import Derived.Laws.BytesArg
import Derived.Laws.MakeOwn
import Derived.Laws.OwnMore
import Derived.Deep.OwnRows
import Derived.Tactics
import Derived.Lib.ConvBytes
import Derived.Laws.Slices
import Derived.WalkKit
import Derived.KernelRfl
import Derived.RowKit3
import Derived.Deep.LoopGhost
import Derived.Deep.QuietTactic
import Derived.BigQuiet
import Derived.WideLaws
import Derived.Deep.DeepCutAuto
import Derived.Deep.CutBlock
import Derived.Deep.RegionHeld3
import Derived.Laws.Rows
import Derived.Lib.AppendStr
import Derived.ArgAppend
import Derived.Laws.IdiomCopy
import Derived.OrdersHeld
import Derived.Laws.BitsLemmas
import Derived.RowKit
import Derived.Outline
import Derived.Maps.Own
import Derived.Maps.OwnOps
import Derived.Maps.OwnSet
import Derived.Maps.Views
import Derived.Maps.RangeWalk
import Derived.Maps.Ext
import Derived.RangeFuncOwn
import Derived.OneCell
import Derived.Deep.DeepMust
import Derived.Lib.Hide
import Derived.StillTailTactics
import Derived.Laws.AppendOwnNone
import Derived.WalkMore
import Derived.Lib.SlBytesConst
import Derived.WalkLawsBesides
import Derived.Laws.BitsAllLaws
import Derived.Test.YtdabflkejhoghaaGreatHQb
import Derived.Test.YtdabflkejhoghaaGreatHQa
import Derived.Test.YtdabflkejhoghaaGreatHWa
import Derived.Test.YtdabflkejhoghaaGreatWLast
namespace Go.Proofs.YtdabflkejhoghaaGreat.Hand
open Go Go.RowKit
set_option linter.unusedVariables false
set_option linter.unusedSimpArgs false
theorem Kp.cut {L : List Nat} {B B' : Nat} {x y : World} (h : Kp L B x y) (hL : ∀ k ∈ L, B' ≤ k) (hB : B' ≤ B) : Kp [] B' x y :=
  ⟨h.os, h.tape, h.output, h.size, fun k hk _ => h.block k (by omega) (fun e => by have := hL k e; omega)⟩
theorem cell1 {w : World} {g : Nat} {v : Value} {t : TypeId} (h : w.heap[g]? = some (.cells #[v] t (0, 0))) : w.cell? ⟨g, 0, none⟩ = some v ∧ w.frozen? ⟨g, 0, none⟩ = false := ⟨by rw [Lib.cell_of_heap h]; rfl, Lib.frozen_of_heap h 0⟩
theorem and_one (m : Nat) (h : m < 4294967296) : bits .and .u32 (m : Int) 1 = ((m % 2 : Nat) : Int) := by
  have := u32_and_nat m 1 h (by omega)
  rw [Nat.and_one_is_mod] at this
  exact this
theorem crc1_int (m : Nat) (h : m < 4294967296) : bits .xor .u32 ((m : Int) / 2) (3988292384 * ((m : Int) % 2)) = ((crc1 m : Nat) : Int) := by
  have e1 : (m : Int) / 2 = ((m / 2 : Nat) : Int) := by omega
  have e2 : 3988292384 * ((m : Int) % 2) = ((3988292384 * (m % 2) : Nat) : Int) := by omega
  rw [e1, e2, u32_xor_nat _ _ (by omega) (by have := Nat.mod_lt m (show 0 < 2 by omega); omega)]; rfl
set_option maxRecDepth 100000 in
theorem csum1 (c n : Nat) (g : Nat) (w : World) (hc : c < 256) (hn : n < 4294967296) (hg : w.heap[g]? = some (.cells #[.int .u32 (n : Int)] 115 (0, 0))) :
    Calls Tryz.prog 88 #[.int .u8 (c : Int), .pointer (some ⟨g, 0, none⟩)] w fun e w' => e = .returned (.tuple #[]) ∧ w'.heap[g]? = some (.cells #[.int .u32 ((crcIt 8 (n ^^^ c) : Nat) : Int)] 115 (0, 0)) ∧ Kp [g] w.heap.size w w' := by
  obtain ⟨h1, h2⟩ := cell1 hg
  have hx := u32_xor_nat n c hn (by omega)
  obtain ⟨m, hm⟩ : ∃ m, m = n ^^^ c := ⟨_, rfl⟩
  have hm2 : m < 4294967296 := by rw [hm]; exact Nat.xor_lt_two_pow (n := 32) hn (by omega)
  rw [← hm] at hx ⊢
  clear hm
  go_enter Tryz.func88, Tryz.ntmps88
  go_wp2
  have hg2 : Hid ((w.setCell ⟨g, 0, none⟩ (.int .u32 (m : Int))).heap[g]? = some (.cells #[.int .u32 (m : Int)] 115 (0, 0))) := one_setCell hg
  have hk2 : Hid (Kp [g] w.heap.size w (w.setCell ⟨g, 0, none⟩ (.int .u32 (m : Int)))) := (Kp.refl _ _ _).setCell (.inr (by simp)) _ _ _
  clear hx h1 h2 hg
  go_loopw [7] (fun i wr => ∃ k : Nat, k ≤ 8 ∧ i = .int .i64 (k : Int) ∧ Hid (wr.heap[g]? = some (.cells #[.int .u32 ((crcIt k m : Nat) : Int)] 115 (0, 0)) ∧ Kp [g] w.heap.size w wr)) (fun i _ => 8 - (intOf i).toNat)
  case atStart => exact ⟨0, by omega, rfl, hg2.out, hk2.out⟩
  case round =>
    obtain ⟨k, hk, rfl, HI⟩ := hrel
    obtain ⟨hgr, hkr⟩ := HI.out
    obtain ⟨h1, h2⟩ := cell1 hgr
    have hlt2 := crcIt_lt k hm2
    have HS := Lib.hid (crcIt_succ k m)
    obtain ⟨q, hq⟩ : ∃ q, q = crcIt k m := ⟨_, rfl⟩
    rw [← hq] at h1 hlt2 hgr
    have HQ := Lib.hid hq
    have HGR := Lib.hid hgr
    have HKR := Lib.hid hkr
    clear hgr hkr HI hq
    by_cases hlt : k < 8
    · have a1 := and_one q hlt2
      have A2 := Lib.hid (crc1_int q hlt2)
      go_wp2
      go_roundw
      case rel =>
        have e1 := one_setCell (u := .int .u32 ((crc1 q : Nat) : Int)) HGR.out
        refine ⟨k + 1, by omega, by go_num, ?_⟩
        rw [HS.out, ← HQ.out, A2.out]
        exact ⟨e1, HKR.out.setCell (.inr (by simp)) _ _ _⟩
      case measure => simp [intOf]; omega
    · obtain rfl : k = 8 := by omega
      go_wp2
      go_end0
      rw [HQ.out] at HGR
      exact ⟨rfl, HGR.out, HKR.out⟩
/-- pieces of bytes, and the slices that they lie in -/
def Pieces (w : World) (blk : Nat) (ps : List (Value × List UInt8)) : Prop := ∀ i (hi : i < ps.length), w.cell? ⟨blk, i, none⟩ = some ps[i].1 ∧ ∃ A, BytesV w A ps[i].1 ps[i].2
def catP (ps : List (Value × List UInt8)) : List UInt8 := (ps.map (·.2)).flatten
theorem catP_take (ps : List (Value × List UInt8)) (k : Nat) (hk : k < ps.length) : catP (ps.take (k + 1)) = catP (ps.take k) ++ ps[k].2 := by
  unfold catP
  rw [List.take_succ_eq_append_getElem hk]; simp only [List.map_append, List.map_cons, List.map_nil, List.flatten_append, List.flatten_cons, List.flatten_nil, List.append_nil]
theorem BytesV.kept {w w' : World} {A : Nat → Prop} {v : Value} {b : List UInt8} (h : BytesV w A v b) {L : List Nat} (hk : Kp L w.heap.size w w') (hL : ∀ k ∈ L, ¬ A k) : BytesV w' A v b :=
  h.mono hk.size (fun k ha hl => ⟨ha, hk.block k hl (fun e => hL k e ha)⟩)
theorem BytesV.at {w : World} {A : Nat → Prop} {a0 : Option Addr} {n cap k : Nat} {b : List UInt8} (h : BytesV w A (.slice a0 n cap) b) (hk : k < b.length) : ∃ x, a0 = some x ∧ w.cell? (x.add k) = some (.int .u8 ((b[k]'hk).toNat : Int)) := by
  obtain ⟨ao, cap, he, _, _, h5⟩ := h
  injection he with he1 _ _
  subst he1
  rcases h5 with ⟨_, h5, _⟩ | ⟨x, h5, _, h6⟩
  · subst h5; simp at hk
  · exact ⟨x, h5, h6 k hk⟩
theorem BytesV.low {w : World} {A : Nat → Prop} {v : Value} {b : List UInt8} (h : BytesV w A v b) : BytesV w (fun k => k < w.heap.size) v b := by
  obtain ⟨ao, cap, rfl, h1, h2, h3⟩ := h
  exact ⟨ao, cap, rfl, h1, h2, h3.imp id fun ⟨a, e, h4, h5⟩ => ⟨a, e, fun hb => ⟨(h4 hb).2, (h4 hb).2⟩, h5⟩⟩
theorem Pieces.kp {w w' : World} {blk : Nat} {ps : List (Value × List UInt8)} (h : Pieces w blk ps) (hb : blk < w.heap.size) (hk : Kp [] w.heap.size w w') : Pieces w' blk ps := fun i hi => by
  obtain ⟨h1, A, h2⟩ := h i hi
  exact ⟨(hk.cell (p := ⟨blk, i, none⟩) hb (by simp)).trans h1, A, BytesV.kept h2 hk (by simp)⟩
theorem crcL_take (n : Nat) (l : List UInt8) (k : Nat) (hk : k < l.length) : crcL n (l.take (k + 1)) = crcB (crcL n (l.take k)) l[k] := by
  rw [List.take_succ_eq_append_getElem hk, crcL_snoc]
set_option maxHeartbeats 1000000 in
set_option maxRecDepth 100000 in
theorem csum (ps : List (Value × List UInt8)) (blk : Nat) (w : World) (hps : ps.length ≤ 2) (hb : blk < w.heap.size) (h : Pieces w blk ps) :
    Calls Tryz.prog 80 #[.slice (some ⟨blk, 0, none⟩) ps.length ps.length] w fun e w' => e = .returned (.int .u32 ((sumN (catP ps) : Nat) : Int)) ∧ Kp [] w.heap.size w w' := by
  have hmf : ∀ (fn : Fn) (first cap : Array Value) (w : World), (Instr.makeFunc fn first cap).run Tryz.prog w = .ok (.func fn first cap) w := fun _ _ _ _ => rfl
  obtain ⟨m, hm⟩ : ∃ m, m = ps.length := ⟨_, rfl⟩
  have HM := Lib.hid hm
  rw [← hm] at hps ⊢
  clear hm
  have HP := Lib.hid h
  clear h
  go_enter Tryz.func80, Tryz.ntmps80
  go_wp2
  obtain ⟨W, hW⟩ : ∃ W, W = w.alloc (.cells #[.int .u32 4294967295] 115) := ⟨_, rfl⟩
  obtain ⟨g, hg⟩ : ∃ g, g = w.heap.size := ⟨_, rfl⟩
  have hg0 : W.heap[g]? = some (.cells #[.int .u32 4294967295] 115 (0, 0)) := by rw [hW, hg]; exact World.alloc_heap_new w _
  have hk0 : Kp [] g w W := by rw [hW, hg]; exact (Kp.refl _ _ _).alloc (Nat.le_refl _) _
  have hgW : g < W.heap.size := by rw [hW, hg]; simp
  have HB : Hid (blk < g) := by rw [hg]; exact hb
  rw [← hW, ← hg]
  have HG0 := Lib.hid hg0
  have HK0 := Lib.hid hk0
  have HGW := Lib.hid hgW
  have HGE := Lib.hid hg
  clear hg0 hk0 hW hg hb hgW
  go_loopw [12] (fun i wr => ∃ k : Nat, k ≤ m ∧ i = .int .i64 (k : Int) ∧ Hid (wr.heap[g]? = some (.cells #[.int .u32 ((crcL 4294967295 (catP (ps.take k)) : Nat) : Int)] 115 (0, 0)) ∧ Kp [g] W.heap.size W wr)) (fun i _ => m - (intOf i).toNat)
  case atStart => exact ⟨0, by omega, rfl, HG0.out, Kp.refl _ _ _⟩
  case round =>
    obtain ⟨k, hk, rfl, HI⟩ := hrel
    obtain ⟨wo, rfl⟩ : ∃ wo, wo = wr := ⟨_, rfl⟩
    obtain ⟨n, hn⟩ : ∃ n, n = crcL 4294967295 (catP (ps.take k)) := ⟨_, rfl⟩
    have hnl : n < 4294967296 := by rw [hn]; exact crcL_lt _ (by omega)
    rw [← hn] at HI
    have HN := Lib.hid hn
    clear hn
    by_cases hlt : k < m
    · have hkp : k < ps.length := by rw [← HM.out]; exact hlt
      obtain ⟨hc, A, hbv⟩ := HP.out k hkp
      have KW : Kp [g] g w wo := (HK0.out.mono (by simp) (Nat.le_refl _)).trans (HI.out.2.mono (by simp) (by have := HGW.out; omega))
      have hcr := (KW.cell (p := ⟨blk, k, none⟩) (by have := HB.out; show blk < _; omega) (by have := HB.out; show blk ∉ [g]; simp; omega)).trans hc
      have hbw := BytesV.kept hbv.low (L := [g]) (w' := wo) (KW.mono (by simp) (by have := HGE.out; omega)) (by have := HGE.out; simp; omega)
      obtain ⟨b, hbe⟩ : ∃ b, b = ps[k].2 := ⟨_, rfl⟩
      rw [← hbe] at hbw
      have HBE := Lib.hid hbe
      obtain ⟨ao, cap, he, hcap1, hcap2, -⟩ := id hbw
      rw [he] at hcr hbw
      have HBW := Lib.hid hbw
      obtain ⟨hgo, hko⟩ := HI.out
      have HGO := Lib.hid hgo
      have HKO := Lib.hid hko
      obtain ⟨len, hlen⟩ : ∃ len, len = b.length := ⟨_, rfl⟩
      rw [← hlen] at hcr HBW hcap1
      have HL := Lib.hid hlen
      clear hbe he hbw hbv hc hgo hko HI KW hlen
      go_wp2
      go_loopw [18] (fun i wr => ∃ j : Nat, j ≤ len ∧ i = .int .i64 (j : Int) ∧ Hid (wr.heap[g]? = some (.cells #[.int .u32 ((crcL n (b.take j) : Nat) : Int)] 115 (0, 0)) ∧ Kp [g] wo.heap.size wo wr)) (fun i _ => len - (intOf i).toNat)
      case atStart => exact ⟨0, by omega, rfl, HGO.out, Kp.refl _ _ _⟩
      case round =>
        obtain ⟨j, hj, rfl, HJ⟩ := hrel
        by_cases hjl : j < len
        · have hjb : j < b.length := by rw [← HL.out]; exact hjl
          have hgo2 : g < wo.heap.size := by have := HGW.out; have := HKO.out.size; omega
          obtain ⟨x, rfl, hx⟩ := (HBW.out.kept (L := [g]) HJ.out.2 (by have := HGE.out; simp; omega)).at hjb
          obtain ⟨c, hc⟩ : ∃ c, c = (b[j]).toNat := ⟨_, rfl⟩
          rw [← hc] at hx
          have hc8 : c < 256 := by rw [hc]; exact UInt8.toNat_lt _
          have HC := Lib.hid hc
          clear hc
          go_wp2_with fail
          obtain ⟨q, hq⟩ : ∃ q, q = crcL n (b.take j) := ⟨_, rfl⟩
          have hql : q < 4294967296 := by rw [hq]; exact crcL_lt _ hnl
          rw [← hq] at HJ
          have HS : Hid (crcIt 8 (q ^^^ c) = crcL n (b.take (j + 1))) := by rw [crcL_take n b j hjb, ← hq, HC.out]; exact rfl
          clear hq
          refine (csum1 c q g _ hc8 hql HJ.out.1).mono ?_
          rintro e w2 ⟨rfl, hg2, hk2⟩
          rw [HS.out] at hg2
          have HG2 := Lib.hid hg2
          have HK2 := Lib.hid (HJ.out.2.trans (hk2.mono (by simp) HJ.out.2.size))
          clear hg2 hk2 HJ hx
          go_wp2_with fail
          go_roundw
          case rel => exact ⟨j + 1, by omega, by go_num, HG2.out, HK2.out⟩
          case measure => simp [intOf]; omega
        · obtain rfl : j = len := by omega
          have HS : Hid (crcL n (b.take j) = crcL 4294967295 (catP (ps.take (k + 1)))) := by rw [HL.out, List.take_length, HN.out, ← crcL_app, catP_take ps k (by rw [← HM.out]; exact hlt), HBE.out]; exact rfl
          go_wp2_with fail
          go_roundw
          case rel => 
            refine ⟨k + 1, by omega, by go_num, ?_⟩
            rw [← HS.out]
            exact ⟨HJ.out.1, HKO.out.trans (HJ.out.2.mono (by simp) HKO.out.size)⟩
          case measure => simp [intOf]; omega
    · obtain rfl : k = m := by omega
      obtain ⟨hc1, hc2⟩ := cell1 HI.out.1
      have HX := Lib.hid (u32_xor_nat 4294967295 n (by omega) hnl)
      go_wp2
      go_ret
      refine ⟨?_, ?_⟩
      · have h4 : bits .xor .u32 (4294967295 : Int) (n : Int) = ((4294967295 ^^^ n : Nat) : Int) := HX.out
        have h5 := HN.out
        rw [HM.out, List.take_length] at h5
        unfold sumN
        show Ending.returned (.int .u32 (bits .xor .u32 (4294967295 : Int) (n : Int))) = _
        rw [h4, h5]
      · exact (HK0.out.mono (by simp) (by have := HGE.out; omega)).trans (HI.out.2.cut (B' := w.heap.size) (by have := HGE.out; simp; omega) (by have := HGE.out; have := HGW.out; omega))
end Go.Proofs.YtdabflkejhoghaaGreat.Hand
namespace Go.Proofs.YtdabflkejhoghaaGreat.Hand
open Go Go.RowKit Go.Proofs.YtdabflkejhoghaaGreat.HW Go.Proofs.YtdabflkejhoghaaGreatW.PrintLast Go.Proofs.YtdabflkejhoghaaGreat.HW
attribute [local go_sem] max2_int min2_int max_two min_two
set_option linter.unusedVariables false
set_option linter.unusedSimpArgs false
theorem getN_take (l : List UInt8) (a k : Nat) (hk : k < l.length) : getN (l.take (k + 1)) a = getN (l.take k) a * 256 + l[k].toNat := by
  rw [List.take_succ_eq_append_getElem hk]
  generalize l.take k = m
  generalize l[k] = c
  induction m generalizing a with
  | nil => simp [getN]
  | cons x m ih => simp only [List.cons_append, getN]; exact ih _
theorem u64_or (n c : Nat) (hn : n * 256 < 18446744073709551616) (hc : c < 256) : bits .or .u64 ((n : Int) * 256) (c : Int) = ((n * 256 + c : Nat) : Int) := by
  rw [bits_join .u64 64 (by decide) (fun n a b => by rw [IntKind.wrap_u64]; exact Int.emod_eq_of_lt a b) 8 _ _ (by omega) (by omega) (by omega) (by omega) (by omega) (by omega)]
  omega
set_option maxRecDepth 100000 in
theorem nGet {A : Nat → Prop} (v : Value) (b : List UInt8) (w : World) (h : BytesV w A v b) (hl : b.length ≤ 8) :
    Calls Tryz.prog 79 #[v] w fun e w' => e = .returned (.int .u64 ((getN b 0 : Nat) : Int)) ∧ w = w' := by
  obtain ⟨ao, cap, rfl, hc1, hc2, -⟩ := id h
  obtain ⟨m, hm⟩ : ∃ m, m = b.length := ⟨_, rfl⟩
  rw [← hm] at h hc1 hl ⊢
  have HB := Lib.hid h
  have HM := Lib.hid hm
  have e1 : IntKind.i64.wrap ((m : Int) - 8) = (m : Int) - 8 := IntWalk.i64_in _ (by omega)
  clear h hm
  go_enter Tryz.func79, Tryz.ntmps79
  go_wp2
  clear e1
  go_loop [3, 13] (fun n i => ∃ k : Nat, k ≤ m ∧ i = .int .i64 (k : Int) ∧ n = .int .u64 ((getN (b.take k) 0 : Nat) : Int)) (fun _ i => m - (intOf i).toNat)
  case atStart => exact ⟨0, by omega, rfl, rfl⟩
  case round =>
    obtain ⟨k, hk, rfl, rfl⟩ := hrel
    by_cases hlt : k < m
    · have hkb : k < b.length := by rw [← HM.out]; exact hlt
      obtain ⟨x, rfl, hx⟩ := HB.out.at hkb
      obtain ⟨c, hc⟩ : ∃ c, c = (b[k]).toNat := ⟨_, rfl⟩
      rw [← hc] at hx
      have hc8 : c < 256 := by rw [hc]; exact UInt8.toNat_lt _
      have HS := Lib.hid (getN_take b 0 k hkb)
      have HC := Lib.hid hc
      have hgl : getN (b.take k) 0 < 256 ^ 7 := Nat.lt_of_lt_of_le (getN_lt' (List.length_take_of_le (by omega))) (Nat.pow_le_pow_right (by omega) (by omega))
      obtain ⟨n, hn⟩ : ∃ n, n = getN (b.take k) 0 := ⟨_, rfl⟩
      rw [← hn] at hgl ⊢
      have HN := Lib.hid hn
      have ho := u64_or n c (by omega) hc8
      have hnw : IntKind.u64.wrap ((n : Int) * 256) = (n : Int) * 256 := by rw [IntKind.wrap_u64]; omega
      clear hc hn hgl
      go_wp2
      go_round
      case rel => exact ⟨k + 1, by omega, by go_num, by rw [HS.out, ← HN.out, ← HC.out]; exact rfl⟩
      case measure => simp [intOf]; omega
    · obtain rfl : k = m := by omega
      have HT : Hid (getN (b.take k) 0 = getN b 0) := by rw [HM.out, List.take_length]; exact rfl
      go_wp2
      go_ret
      rw [HT.out]
      exact ⟨rfl, rfl⟩
end Go.Proofs.YtdabflkejhoghaaGreat.Hand
