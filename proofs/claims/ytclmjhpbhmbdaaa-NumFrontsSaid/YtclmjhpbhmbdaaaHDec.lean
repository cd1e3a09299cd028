/- num.Decimal by hand: what it returns, out of the text's bytes. -/
import Derived.Test.YtclmjhpbhmbdaaaProg
import Derived.Below
import Derived.Deep.Draws
import Derived.Deep.AppendLies
import Derived.Maps.AppendAt
import Derived.OwnWalk
import Derived.Laws.BytesArg
import Derived.Laws.MakeOwn
import Derived.Laws.OwnMore
import Derived.Deep.OwnRows
import Derived.Tactics
import Derived.Lib.ConvBytes
import Derived.Laws.Slices
import Derived.WalkKit
import Derived.KernelRfl
import Derived.RowKit3
import Derived.Deep.LoopGhost
import Derived.Deep.QuietTactic
import Derived.BigQuiet
import Derived.WideLaws
import Derived.Deep.DeepCutAuto
import Derived.Deep.CutBlock
import Derived.Deep.RegionHeld3
import Derived.Laws.Rows
import Derived.Lib.AppendStr
import Derived.ArgAppend
import Derived.Laws.IdiomCopy
import Derived.OrdersHeld
import Derived.Laws.BitsLemmas
import Derived.RowKit
import Derived.Test.YtclmjhpbhmbdaaaWWords
import Derived.Test.YtclmjhpbhmbdaaaWLast
import Derived.Test.YtclmjhpbhmbdaaaWTab
import Derived.Test.YtclmjhpbhmbdaaaWFour
import Derived.Test.YtclmjhpbhmbdaaaWQPut
import Derived.Test.YtclmjhpbhmbdaaaWApart
import Derived.Test.YtclmjhpbhmbdaaaWArr
import Derived.Test.YtclmjhpbhmbdaaaWZeros
import Derived.Test.YtclmjhpbhmbdaaaWFoot
import Derived.Test.YtclmjhpbhmbdaaaWKept
import Derived.Test.YtclmjhpbhmbdaaaWShare
import Derived.Test.YtclmjhpbhmbdaaaWN
import Derived.Test.YtclmjhpbhmbdaaaWFootNe
import Derived.Test.YtclmjhpbhmbdaaaWAt
import Derived.Test.YtclmjhpbhmbdaaaWEqStruct
import Derived.Test.YtclmjhpbhmbdaaaWRepsOne
import Derived.Test.YtclmjhpbhmbdaaaWInv
import Derived.Test.YtclmjhpbhmbdaaaWInvWords
import Derived.Test.YtclmjhpbhmbdaaaWGuard
import Derived.Test.YtclmjhpbhmbdaaaWNEv
import Derived.Test.YtclmjhpbhmbdaaaWMore
import Derived.Outline
import Derived.Laws.RangeAny
namespace Go.Proofs.Ytclmjhpbhmbdaaa.Hand
open Go.RowKit Go.Proofs.YtclmjhpbhmbdaaaW.PrintWords Go.Proofs.YtclmjhpbhmbdaaaW.PrintLast Go.Proofs.YtclmjhpbhmbdaaaW.PrintMore
attribute [local go_sem] max2_int min2_int max_two min_two max_three min_three max_four min_four

/-- the value of digits, behind n; none: a byte is no digit -/
def decV : List Int → Int → Option Int
  | [], n => some n
  | c :: l, n => if 48 ≤ c ∧ c ≤ 57 then decV l (10 * n + (c - 48)) else none
def decR (s : ByteArray) (most : Int) : Int × Bool :=
  if s.size = 0 ∨ 9 < s.size then (0, false) else
    match decV (bytesOf s) 0 with
    | none => (0, false)
    | some n => if n > most then (0, false) else (n, true)
def num_Decimal.f (a0 : ByteArray) (a1 : Int) : Option (Int × Bool) := some (decR a0 a1)

theorem bytes_drop (s : ByteArray) (p : Nat) (h : p < s.size) : (bytesOf s).drop p = ((s[p]'h).toNat : Int) :: (bytesOf s).drop (p + 1) := by
  have hl : p < (bytesOf s).length := by rw [bytesOf_length]; exact h
  rw [List.drop_eq_getElem_cons hl]
  congr 1
  simp [bytesOf]
  rfl

theorem pow_bd (n : Int) (p : Nat) (hp : p < 9) (h : n < 10 ^ p) : n < 100000000 := by
  have : (10 : Int) ^ p ≤ 10 ^ 8 := by have h := Nat.pow_le_pow_right (n := 10) (by omega) (show p ≤ 8 by omega); exact_mod_cast h
  have e : (10 : Int) ^ 8 = 100000000 := rfl
  omega
theorem pow_step (n c : Int) (p : Nat) (h : n < 10 ^ p) (hc : c ≤ 57) : 10 * n + (c - 48) < 10 ^ (p + 1) := by
  rw [Int.pow_succ]; omega
theorem decV_digit (l : List Int) (c n : Int) (h0 : 48 ≤ c) (h1 : c ≤ 57) : decV (c :: l) n = decV l (10 * n + (c - 48)) := by
  rw [decV, if_pos ⟨h0, h1⟩]
theorem decV_none (l : List Int) (c n : Int) (h : ¬ (48 ≤ c ∧ c ≤ 57)) : decV (c :: l) n = none := by
  rw [decV, if_neg h]

set_option maxHeartbeats 800000 in
set_option maxRecDepth 100000 in
theorem num_Decimal.calls (a0 : ByteArray) (a1 : Int) (r1 : Int) (r2 : Bool) (w : World) (h : num_Decimal.f a0 a1 = some (r1, r2)) :
    Calls Try.prog 25 #[.string a0, .int .i64 a1] w fun e w' => e = .returned (.tuple #[.int .i64 r1, .bool r2]) ∧ Below w.heap.size w w' := by
  have H := Aside0.mk (Option.some.inj h)
  clear h
  by_cases h0 : a0.size = 0
  · obtain rfl : a0 = ByteArray.empty := by
      apply ByteArray.ext; apply Array.eq_empty_of_size_eq_zero; exact h0
    obtain ⟨rfl, rfl⟩ : (0 : Int) = r1 ∧ false = r2 := by have := H.out; unfold decR at this; rw [if_pos (.inl h0)] at this; exact ⟨congrArg Prod.fst this, congrArg Prod.snd this⟩
    clear h0 H
    go_enter Try.func25, Try.ntmps25
    go_wp2
    go_ret2
    exact ⟨rfl, Below.refl _ _⟩
  · have hc1 : a0.toList.isEmpty = false := by
      rw [List.isEmpty_eq_false_iff]; intro he; apply h0
      have : a0.data.toList = [] := by simpa [ByteArray.toList_eq] using he
      rw [← data_length, this]; rfl
    have hpos : 0 < a0.size := by omega
    by_cases h9 : 9 < a0.size
    · obtain ⟨rfl, rfl⟩ : (0 : Int) = r1 ∧ false = r2 := by have := H.out; unfold decR at this; rw [if_pos (.inr h9)] at this; exact ⟨congrArg Prod.fst this, congrArg Prod.snd this⟩
      clear h0 H
      have d1 : decide (9 < a0.size) = true := decide_eq_true h9
      have d2 : decide (9 < (a0.size : Int)) = true := decide_eq_true (by omega)
      go_enter Try.func25, Try.ntmps25
      go_wp2
      go_ret2
      exact ⟨rfl, Below.refl _ _⟩
    · have HR := Aside0.mk (show (match decV (bytesOf a0) 0 with | none => ((0 : Int), false) | some n => if n > a1 then (0, false) else (n, true)) = (r1, r2) by
        have := H.out; unfold decR at this; rwa [if_neg (by omega)] at this)
      clear H h0
      have hsz : a0.size ≤ 9 := by omega
      have d1 : decide (9 < a0.size) = false := decide_eq_false h9
      have d2 : decide (9 < (a0.size : Int)) = false := decide_eq_false (by omega)
      clear h9
      go_enter Try.func25, Try.ntmps25
      go_wp2
      go_loopw [6] (fun v w' => ∃ (pos : Nat) (n : Int), w' = w.iter a0 pos ∧ v = .int .i64 n ∧ pos ≤ a0.size ∧ 0 ≤ n ∧ n < 10 ^ pos ∧ Aside0 (decV ((bytesOf a0).drop pos) n = decV (bytesOf a0) 0)) (fun _ w' => a0.size - w'.iterPos w.heap.size)
      case atStart => exact ⟨0, 0, rfl, rfl, by omega, by omega, by decide, ⟨rfl⟩⟩
      case round =>
        obtain ⟨pos, n, rfl, rfl, hp, hn0, hn1, HD⟩ := hrel
        by_cases hlt : pos < a0.size
        · have hnx : ∀ ty, (Instr.next (.pointer (some ⟨w.heap.size, 0, none⟩)) true ty).run Try.prog (w.iter a0 pos) = _ := fun ty => run_next_any w a0 pos ty hlt
          have hbd := bytes_drop a0 pos hlt
          have hnb := pow_bd n pos (by omega) hn1
          by_cases hd : 48 ≤ (a0[pos]'hlt).toNat ∧ (a0[pos]'hlt).toNat ≤ 57
          · have hdec := decode_ascii a0 pos hlt (by omega)
            obtain ⟨c, hc⟩ : ∃ c : Nat, (a0[pos]'hlt).toNat = c := ⟨_, rfl⟩
            rw [hc] at hdec hbd hd
            have HS := Aside0.mk (pow_step n c pos hn1 (by omega))
            have HD' := Aside0.mk (show decV ((bytesOf a0).drop (pos + 1)) (10 * n + (c - 48)) = decV (bytesOf a0) 0 by
              rw [← HD.out, hbd, decV_digit _ _ _ (by omega) (by omega)])
            rw [hdec] at hnx
            obtain ⟨hd0, hd1⟩ := hd
            have e1 : decide ((c : Int) < 48) = false := decide_eq_false (by omega)
            have e2 : decide (57 < (c : Int)) = false := decide_eq_false (by omega)
            have e3 : decide (c < 48) = false := decide_eq_false (by omega)
            have e4 : decide (57 < c) = false := decide_eq_false (by omega)
            have e5 : (0 : Int) ≤ c - 48 := by omega
            have e6 : (c : Int) ≤ 57 := by omega
            clear hdec hbd hc hn1 HD HR
            go_wp2
            go_roundw
            case rel => exact ⟨pos + 1, _, rfl, rfl, by omega, by omega, HS.out, HD'⟩
            case measure => simp; omega
          · have hnone : decV (bytesOf a0) 0 = none := by rw [← HD.out, hbd, decV_none _ _ _ (by omega)]
            obtain ⟨rfl, rfl⟩ : (0 : Int) = r1 ∧ false = r2 := by have := HR.out; rw [hnone] at this; exact ⟨congrArg Prod.fst this, congrArg Prod.snd this⟩
            obtain ⟨rn, wd, hdec, hr⟩ : ∃ rn wd, Utf8.decode a0 pos = (rn, wd) ∧ (rn < 48 ∨ 57 < rn) := by
              by_cases ha : (a0[pos]'hlt).toNat < 128
              · exact ⟨_, _, decode_ascii a0 pos hlt ha, by omega⟩
              · exact ⟨_, _, rfl, .inr (Nat.lt_of_lt_of_le (by decide) (decode_high a0 pos hlt (by omega)).1)⟩
            rw [hdec] at hnx
            clear hdec hbd hnone HR HD hd hn1
            rcases hr with hr | hr
            · have e1 : decide ((rn : Int) < 48) = true := decide_eq_true (by omega)
              have e3 : decide (rn < 48) = true := decide_eq_true hr
              go_wp2
              go_ret2
              exact ⟨rfl, (Below.refl _ _).alloc (Nat.le_refl _) _⟩
            · have e1 : decide ((rn : Int) < 48) = false := decide_eq_false (by omega)
              have e3 : decide (rn < 48) = false := decide_eq_false (by omega)
              have e2 : decide (57 < (rn : Int)) = true := decide_eq_true (by omega)
              have e4 : decide (57 < rn) = true := decide_eq_true hr
              go_wp2
              go_ret2
              exact ⟨rfl, (Below.refl _ _).alloc (Nat.le_refl _) _⟩
        · have hnx : ∀ ty, (Instr.next (.pointer (some ⟨w.heap.size, 0, none⟩)) true ty).run Try.prog (w.iter a0 pos) = _ := fun ty => run_next_end w a0 pos ty hlt
          have hdr : (bytesOf a0).drop pos = [] := List.drop_eq_nil_of_le (by rw [bytesOf_length]; omega)
          have hv : decV (bytesOf a0) 0 = some n := by rw [← HD.out, hdr]; rfl
          by_cases hm : n > a1
          · obtain ⟨rfl, rfl⟩ : (0 : Int) = r1 ∧ false = r2 := by have := HR.out; rw [hv] at this; simp only [if_pos hm] at this; exact ⟨congrArg Prod.fst this, congrArg Prod.snd this⟩
            have e1 : decide (a1 < n) = true := decide_eq_true hm
            clear hv hdr HR HD hm hn1
            go_wp2
            go_ret2
            exact ⟨rfl, (Below.refl _ _).alloc (Nat.le_refl _) _⟩
          · obtain ⟨rfl, rfl⟩ : n = r1 ∧ true = r2 := by have := HR.out; rw [hv] at this; simp only [if_neg hm] at this; exact ⟨congrArg Prod.fst this, congrArg Prod.snd this⟩
            have e1 : decide (a1 < n) = false := decide_eq_false hm
            clear hv hdr HR HD hm hn1
            go_wp2
            go_ret2
            exact ⟨rfl, (Below.refl _ _).alloc (Nat.le_refl _) _⟩
end Go.Proofs.Ytclmjhpbhmbdaaa.Hand
