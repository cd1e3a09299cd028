/- num.Get by hand: the number that the last eight bytes tell. -/
import Derived.Test.YtclmjhpbhmbdaaaProg
import Derived.Below
import Derived.Deep.Draws
import Derived.Deep.AppendLies
import Derived.Maps.AppendAt
import Derived.OwnWalk
import Derived.Laws.BytesArg
import Derived.Laws.MakeOwn
import Derived.Laws.OwnMore
import Derived.Deep.OwnRows
import Derived.Tactics
import Derived.Lib.ConvBytes
import Derived.Laws.Slices
import Derived.WalkKit
import Derived.KernelRfl
import Derived.RowKit3
import Derived.Deep.LoopGhost
import Derived.Deep.QuietTactic
import Derived.BigQuiet
import Derived.WideLaws
import Derived.Deep.DeepCutAuto
import Derived.Deep.CutBlock
import Derived.Deep.RegionHeld3
import Derived.Laws.Rows
import Derived.Lib.AppendStr
import Derived.ArgAppend
import Derived.Laws.IdiomCopy
import Derived.OrdersHeld
import Derived.Laws.BitsLemmas
import Derived.RowKit
import Derived.Test.YtclmjhpbhmbdaaaWWords
import Derived.Test.YtclmjhpbhmbdaaaWLast
import Derived.Test.YtclmjhpbhmbdaaaWTab
import Derived.Test.YtclmjhpbhmbdaaaWFour
import Derived.Test.YtclmjhpbhmbdaaaWQPut
import Derived.Test.YtclmjhpbhmbdaaaWApart
import Derived.Test.YtclmjhpbhmbdaaaWArr
import Derived.Test.YtclmjhpbhmbdaaaWZeros
import Derived.Test.YtclmjhpbhmbdaaaWFoot
import Derived.Test.YtclmjhpbhmbdaaaWKept
import Derived.Test.YtclmjhpbhmbdaaaWShare
import Derived.Test.YtclmjhpbhmbdaaaWN
import Derived.Test.YtclmjhpbhmbdaaaWFootNe
import Derived.Test.YtclmjhpbhmbdaaaWAt
import Derived.Test.YtclmjhpbhmbdaaaWEqStruct
import Derived.Test.YtclmjhpbhmbdaaaWRepsOne
import Derived.Test.YtclmjhpbhmbdaaaWInv
import Derived.Test.YtclmjhpbhmbdaaaWInvWords
import Derived.Test.YtclmjhpbhmbdaaaWGuard
import Derived.Test.YtclmjhpbhmbdaaaWNEv
import Derived.Test.YtclmjhpbhmbdaaaWMore
import Derived.Outline
namespace Go.Proofs.Ytclmjhpbhmbdaaa.Hand
open Go.RowKit Go.Proofs.YtclmjhpbhmbdaaaW.PrintWords Go.Proofs.YtclmjhpbhmbdaaaW.PrintLast Go.Proofs.YtclmjhpbhmbdaaaW.PrintMore
attribute [local go_sem] max2_int min2_int max_two min_two max_three min_three max_four min_four

theorem info5g : (Try.prog.info? 5).map (fun i => (i.zero, i.size, i.bytes)) = some (some (.int .u8 0), 1, 1) := by kernel_rfl
/-- the number that bytes tell, behind n -/
def getV : List Int → Int → Int
  | [], n => n
  | c :: l, n => getV l (n * 256 + c)
def bytesB (l : List Int) : Bool := l.all fun c => decide (0 ≤ c) && decide (c < 256)
def num_Get.f (l0 : List Int) : Option Int := if bytesB l0 = true ∧ l0.length ≤ 9223372036854775807 then some (getV (l0.drop (l0.length - 8)) 0) else none
theorem rd_drop_cons (m : List Int) (k : Nat) (h : k < m.length) : m.drop k = rd m k :: m.drop (k + 1) := by
  rw [List.drop_eq_getElem_cons h]
  congr 1
  simp [rd, h]
theorem rd_byte (m : List Int) (k : Nat) (h : k < m.length) (hb : bytesB m = true) : 0 ≤ rd m k ∧ rd m k < 256 := by
  have := List.all_eq_true.1 hb m[k] (List.getElem_mem h)
  simp only [Bool.and_eq_true, decide_eq_true_eq] at this
  have e : rd m k = m[k] := by simp [rd, h]
  rw [e]; exact this
theorem bytesB_drop (l : List Int) (d : Nat) (h : bytesB l = true) : bytesB (l.drop d) = true := by
  unfold bytesB at *
  rw [List.all_eq_true] at *
  exact fun x hx => h x (List.mem_of_mem_drop hx)
theorem pow_le7 (k : Nat) (h : k < 8) : (256 : Int) ^ k ≤ 72057594037927936 := by
  have h2 : 256 ^ k ≤ 256 ^ 7 := Nat.pow_le_pow_right (by omega) (show k ≤ 7 by omega)
  have h3 : ((256 ^ k : Nat) : Int) ≤ ((256 ^ 7 : Nat) : Int) := Int.ofNat_le.mpr h2
  rw [Int.natCast_pow, Int.natCast_pow] at h3
  exact h3
theorem or_step (n c : Int) (k : Nat) (hk : k < 8) (h0 : 0 ≤ n) (h1 : n < 256 ^ k) (c0 : 0 ≤ c) (c1 : c < 256) : Go.bits .or .u64 (n * 256) c = n * 256 + c := by
  have := pow_le7 k hk
  exact bits_join .u64 64 (by decide) (fun n a b => by rw [IntKind.wrap_u64]; exact Int.emod_eq_of_lt a b) 8 _ _ (by omega) (by omega) (by omega) c0 (by omega) (by omega)

set_option maxHeartbeats 800000 in
set_option maxRecDepth 100000 in
theorem num_Get.calls (A0 : Option Addr) (c0 : Nat) (l0 : List Int) (r : Int) (w : World) (hr0 : Kd.C (Kd.int .u8) w A0 l0.length l0) (hc0 : l0.length ≤ c0) (h : num_Get.f l0 = some r) :
    Calls Try.prog 32 #[.slice A0 l0.length c0] w fun e w' => e = .returned (.int .u64 r) ∧ Below w.heap.size w w' := by
  unfold num_Get.f at h
  by_cases hbb : bytesB l0 = true ∧ l0.length ≤ 9223372036854775807
  case neg => rw [if_neg hbb] at h; cases h
  rw [if_pos hbb] at h
  obtain ⟨hb, hlm⟩ := hbb
  have HV := Aside0.mk (Option.some.inj h)
  clear h
  obtain ⟨d, hd⟩ : ∃ d, l0.length - 8 = d := ⟨_, rfl⟩
  rw [hd] at HV
  have hbd := bytesB_drop l0 d hb
  have HM := Aside0.mk hbd
  obtain ⟨m, hm⟩ : ∃ m, l0.drop d = m := ⟨_, rfl⟩
  have hml : l0.length - d = m.length := by rw [← hm, List.length_drop]
  have hm8 : m.length ≤ 8 := by omega
  have hdl : (d : Int) ≤ (l0.length : Int) := by omega
  have ew : wrap64 ((l0.length : Int) - 8) = (l0.length : Int) - 8 := by unfold wrap64; omega
  have e1 : (if 0 < wrap64 ((l0.length : Int) - 8) then wrap64 ((l0.length : Int) - 8) else 0) = (d : Int) := by rw [ew]; split <;> omega
  clear ew
  have e2 : 0 ≤ (d : Int) := by omega
  obtain ⟨i05, hi05, _, hsz5, _⟩ := info_parts info5g
  obtain ⟨A5, hcut5, hA5, hC5⟩ := print_drop_of (P := Try.prog) (Value.int .u8) 0 24 5 .i64 Try.underlying24 hi05 hsz5 A0 c0 l0 (d : Int) e2 hdl hc0
  rw [Int.toNat_natCast, hm] at hA5
  rw [Int.toNat_natCast, hm] at hcut5
  have HR := Aside0.mk (Kd.C_of_reads (h1 := fun _ => rfl) (hA5 _ (Kd.reads_of_C hr0)))
  rw [hm] at HV HM
  clear hA5 hC5 hi05 hsz5 hr0 hc0 hbd hb hm hdl hd hlm
  have HL := Aside0.mk hml
  clear hml
  go_enter Try.func32, Try.ntmps32
  go_wp2
  clear e1 e2 hcut5
  go_loop [3, 13] (fun v i => ∃ (k : Nat) (n : Int), k ≤ m.length ∧ i = .int .i64 k ∧ v = .int .u64 n ∧ 0 ≤ n ∧ n < 256 ^ k ∧ Aside0 (getV (m.drop k) n = r)) (fun _ i => m.length - (intOf i).toNat)
  case atStart => exact ⟨0, 0, Nat.zero_le _, rfl, rfl, by omega, by decide, ⟨by simpa using HV.out⟩⟩
  case round =>
    obtain ⟨k, n, hk, rfl, rfl, hn0, hn1, HG⟩ := hrel
    by_cases hlt : k < m.length
    · obtain ⟨ad, ea, hx⟩ := Kd.at_int HR.out (k : Int) (by omega) (by omega)
      subst ea
      rw [Int.toNat_natCast] at hx
      obtain ⟨c, hc⟩ : ∃ c, rd m k = c := ⟨_, rfl⟩
      rw [hc] at hx
      have hcb := rd_byte m k hlt HM.out
      rw [hc] at hcb
      obtain ⟨hc0, hc1⟩ := hcb
      have hor := or_step n c k (by omega) hn0 hn1 hc0 hc1
      have hp := pow_le7 k (by omega)
      have HG' := Aside0.mk (show getV (m.drop (k + 1)) (n * 256 + c) = r by rw [← HG.out, rd_drop_cons m k hlt, hc]; rfl)
      have HN := Aside0.mk (show n * 256 + c < 256 ^ (k + 1) by rw [Int.pow_succ]; omega)
      have hn2 : n < 72057594037927936 := by omega
      clear hp hn1 hc HG
      go_wp2
      go_round
      case rel => exact ⟨k + 1, _, by omega, by go_num, rfl, by omega, HN.out, HG'⟩
      case measure => simp [intOf]; omega
    · obtain rfl : k = m.length := by omega
      obtain rfl : n = r := by have := HG.out; rw [List.drop_length] at this; exact this
      clear HG hn1
      go_wp2
      go_ret
      exact ⟨rfl, Below.refl _ _⟩
end Go.Proofs.Ytclmjhpbhmbdaaa.Hand
