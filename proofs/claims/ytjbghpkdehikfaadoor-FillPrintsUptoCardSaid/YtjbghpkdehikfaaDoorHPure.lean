/- fill: what was escaped, and printed, is there again. -/
import Derived.Test.YtjbghpkdehikfaaDoorProg
import Derived.Below
import Derived.Deep.Draws
import Derived.Deep.AppendLies
import Derived.Maps.AppendAt
import Derived.OwnWalk
import Derived.Laws.BytesArg
import Derived.Laws.MakeOwn
import Derived.Laws.OwnMore
import Derived.Deep.OwnRows
import Derived.Tactics
import Derived.Lib.ConvBytes
import Derived.Laws.Slices
import Derived.WalkKit
import Derived.KernelRfl
import Derived.RowKit3
import Derived.Deep.LoopGhost
import Derived.Deep.QuietTactic
import Derived.BigQuiet
import Derived.WideLaws
import Derived.Deep.DeepCutAuto
import Derived.Deep.CutBlock
import Derived.Deep.RegionHeld3
import Derived.Laws.Rows
import Derived.Lib.AppendStr
import Derived.ArgAppend
import Derived.Laws.IdiomCopy
import Derived.OrdersHeld
import Derived.Laws.BitsLemmas
import Derived.RowKit
import Derived.Test.YtjbghpkdehikfaaDoorWWords
import Derived.Test.YtjbghpkdehikfaaDoorWLast
import Derived.Test.YtjbghpkdehikfaaDoorWTab
import Derived.Test.YtjbghpkdehikfaaDoorWFour
import Derived.Test.YtjbghpkdehikfaaDoorWQPut
import Derived.Test.YtjbghpkdehikfaaDoorWApart
import Derived.Test.YtjbghpkdehikfaaDoorWArr
import Derived.Test.YtjbghpkdehikfaaDoorWZeros
import Derived.Test.YtjbghpkdehikfaaDoorWFoot
import Derived.Test.YtjbghpkdehikfaaDoorWKept
import Derived.Test.YtjbghpkdehikfaaDoorWShare
import Derived.Test.YtjbghpkdehikfaaDoorWN
import Derived.Test.YtjbghpkdehikfaaDoorWFootNe
import Derived.Test.YtjbghpkdehikfaaDoorWAt
import Derived.Test.YtjbghpkdehikfaaDoorWEqStruct
import Derived.Test.YtjbghpkdehikfaaDoorWRepsOne
import Derived.Test.YtjbghpkdehikfaaDoorWInv
import Derived.Test.YtjbghpkdehikfaaDoorWInvWords
import Derived.Test.YtjbghpkdehikfaaDoorWGuard
import Derived.Test.YtjbghpkdehikfaaDoorWNEv
import Derived.Test.YtjbghpkdehikfaaDoorWMore
import Derived.Outline
import Derived.Test.YtjbghpkdehikfaaDoorHPrint
namespace Go.Proofs.YtjbghpkdehikfaaDoor.Hand
open Go.RowKit Go.Shelf Go.Proofs.YtjbghpkdehikfaaDoorW.PrintWords Go.Proofs.YtjbghpkdehikfaaDoorW.PrintLast Go.Proofs.YtjbghpkdehikfaaDoorW.PrintMore
set_option linter.unusedVariables false
set_option linter.unusedSimpArgs false
set_option maxRecDepth 100000 in
theorem escB_safe : ∀ n : Nat, n < 256 → ∀ b ∈ escB (UInt8.ofNat n), b ≠ 38 ∧ b ≠ 61 ∧ 32 < b.toNat ∧ b.toNat < 127 := by decide +kernel
theorem escB_ok (c : UInt8) : ∀ b ∈ escB c, b ≠ 38 ∧ b ≠ 61 ∧ 32 < b.toNat ∧ b.toNat < 127 := by
  have := escB_safe c.toNat c.toNat_lt
  rwa [UInt8.ofNat_toNat] at this
theorem escR_ok (l : List UInt8) : ∀ b ∈ escR l, b ≠ 38 ∧ b ≠ 61 ∧ 32 < b.toNat ∧ b.toNat < 127 := by
  intro b hb
  obtain ⟨c, _, hc⟩ := List.mem_flatMap.1 hb
  exact escB_ok c b hc
set_option maxRecDepth 100000 in
theorem esc_forms : ∀ n : Nat, n < 256 → (plainF (UInt8.ofNat n) = true → UInt8.ofNat n ≠ 43 ∧ UInt8.ofNat n ≠ 37) ∧ hexOk true (digU (n / 16)) (digU (n % 16)) = true ∧ hexV (digU (n / 16)) (digU (n % 16)) = UInt8.ofNat n := by decide +kernel
theorem unR_esc (c : UInt8) (r : List UInt8) : unR (escB c ++ r) = (unR r).map (c :: ·) := by
  have h := esc_forms c.toNat c.toNat_lt
  rw [UInt8.ofNat_toNat] at h
  obtain ⟨h1, h2, h3⟩ := h
  unfold escB
  by_cases hp : plainF c = true
  · rw [if_pos hp]
    exact unR_else c r (h1 hp).1 (h1 hp).2
  · rw [if_neg hp]
    by_cases h32 : c = 32
    · rw [if_pos h32, h32]
      exact unR_plus r
    · rw [if_neg h32]
      show unR (37 :: digU (c.toNat / 16) :: digU (c.toNat % 16) :: r) = _
      rw [unR_hex, if_pos h2, h3]
theorem unR_escR (l : List UInt8) : unR (escR l) = some l := by
  induction l with
  | nil => rfl
  | cons c l ih =>
    show unR (escB c ++ escR l) = _
    rw [unR_esc, ih]
    rfl
theorem unescR_escR (l : List UInt8) : unescR (escR l) = (l, true) := by unfold unescR; rw [unR_escR]
theorem cutR_app (c : UInt8) (a b : List UInt8) (h : c ∉ a) : cutR c (a ++ [c] ++ b) = (a, b, true) := by
  induction a with
  | nil => show cutR c (c :: b) = _; rw [cutR_cons, if_pos rfl]
  | cons x a ih =>
    show cutR c (x :: (a ++ [c] ++ b)) = _
    rw [cutR_cons, if_neg (fun e => h (by rw [e]; simp)), ih (fun e => h (by simp [e]))]
theorem splitR_app (c : UInt8) (a b : List UInt8) (h : c ∉ a) : splitR c (a ++ [c] ++ b) = a :: splitR c b := by
  induction a with
  | nil => show splitR c (c :: b) = _; rw [splitR_cons, if_pos rfl]
  | cons x a ih =>
    show splitR c (x :: (a ++ [c] ++ b)) = _
    rw [splitR_cons, if_neg (fun e => h (by rw [e]; simp)), ih (fun e => h (by simp [e]))]
theorem splitR_one (c : UInt8) (a : List UInt8) (h : c ∉ a) : splitR c a = [a] := by
  induction a with
  | nil => rfl
  | cons x a ih => rw [splitR_cons, if_neg (fun e => h (by rw [e]; simp)), ih (fun e => h (by simp [e]))]
theorem join_two (x y : List UInt8) (r : List (List UInt8)) : Lib.join (x :: y :: r) [38] = x ++ [38] ++ Lib.join (y :: r) [38] := by
  rw [Lib.join_cons, Lib.join_cons]
  simp [Lib.joinTail]
theorem splitR_join (ps : List (List UInt8)) (hne : ps ≠ []) (h : ∀ p ∈ ps, (38 : UInt8) ∉ p) : splitR 38 (Lib.join ps [38]) = ps := by
  induction ps with
  | nil => exact absurd rfl hne
  | cons x ps ih =>
    cases ps with
    | nil => rw [Lib.join_one]; exact splitR_one 38 x (h x (by simp))
    | cons y r =>
      rw [join_two, splitR_app 38 _ _ (h x (by simp)), ih (by simp) (fun p hp => h p (by simp [hp]))]
theorem piece_no38 (p : Pr) : (38 : UInt8) ∉ pieceR p := by
  intro hm
  unfold pieceR at hm
  rcases List.mem_append.1 hm with hm | hm
  · rcases List.mem_append.1 hm with hm | hm
    · exact (escR_ok _ _ hm).1 rfl
    · exact absurd (List.mem_singleton.1 hm) (by decide)
  · exact (escR_ok _ _ hm).1 rfl
theorem piece_pair (p : Pr) : pairR (pieceR p) = if p.1 = [] then none else some p := by
  have hc : cutR 61 (pieceR p) = (escR p.1, escR p.2, true) := cutR_app 61 _ _ (fun hm => (escR_ok _ _ hm).2.1 rfl)
  unfold pairR
  rw [hc]
  simp only [unR_escR]
theorem pieces_pairs (ps : List Pr) : pairsR (ps.map pieceR) = if (∀ p ∈ ps, p.1 ≠ []) then some ps else none := by
  induction ps with
  | nil => simp [pairsR]
  | cons p ps ih =>
    simp only [List.map_cons, pairsR, piece_pair, ih]
    by_cases hp : p.1 = []
    · simp [hp]
    · by_cases ha : ∀ q ∈ ps, q.1 ≠ []
      · rw [if_neg hp, if_pos ha, if_pos (by intro q hq; rcases List.mem_cons.1 hq with rfl | hq; exact hp; exact ha q hq)]
      · rw [if_neg hp, if_neg ha, if_neg (fun h => ha (fun q hq => h q (by simp [hq])))]
theorem count_split (l : List UInt8) : l.count 38 + 1 = (splitR 38 l).length := (splitR_len 38 l).symm
theorem printR_ne (ps : List Pr) (h : ps ≠ []) : printR ps ≠ [] := by
  cases ps with
  | nil => exact absurd rfl h
  | cons p ps =>
    unfold printR
    rw [List.map_cons, Lib.join_cons]
    intro e
    have := (List.append_eq_nil_iff.1 e).1
    simp [pieceR] at this
theorem parse_print (ps : List Pr) (hl : ps.length ≤ 30) (hn : ∀ p ∈ ps, p.1 ≠ []) : parseR (printR ps) = (ps, 0) := by
  by_cases h0 : ps = []
  · subst h0; rfl
  · have hs : splitR 38 (printR ps) = ps.map pieceR := splitR_join _ (by simpa using h0) (fun p hp => by obtain ⟨q, _, rfl⟩ := List.mem_map.1 hp; exact piece_no38 q)
    have hc := count_split (printR ps)
    rw [hs, List.length_map] at hc
    unfold parseR
    rw [if_neg (printR_ne ps h0), if_neg (by omega), hs, pieces_pairs, if_pos hn]
theorem parse_print_bad (ps : List Pr) (hl : ps.length ≤ 30) (hn : ¬ ∀ p ∈ ps, p.1 ≠ []) : parseR (printR ps) = ([], 10) := by
  have h0 : ps ≠ [] := by intro e; subst e; exact hn (by simp)
  have hs : splitR 38 (printR ps) = ps.map pieceR := splitR_join _ (by simpa using h0) (fun p hp => by obtain ⟨q, _, rfl⟩ := List.mem_map.1 hp; exact piece_no38 q)
  have hc := count_split (printR ps)
  rw [hs, List.length_map] at hc
  unfold parseR
  rw [if_neg (printR_ne ps h0), if_neg (by omega), hs, pieces_pairs, if_neg hn]
theorem printR_app (ps qs : List Pr) (hp : ps ≠ []) (hq : qs ≠ []) : printR (ps ++ qs) = printR ps ++ [38] ++ printR qs := by
  induction ps with
  | nil => exact absurd rfl hp
  | cons p ps ih =>
    cases ps with
    | nil =>
      obtain ⟨q, qs', rfl⟩ : ∃ q qs', qs = q :: qs' := by cases qs with | nil => exact absurd rfl hq | cons q qs' => exact ⟨q, qs', rfl⟩
      show Lib.join (pieceR p :: pieceR q :: qs'.map pieceR) [38] = Lib.join [pieceR p] [38] ++ [38] ++ Lib.join (pieceR q :: qs'.map pieceR) [38]
      rw [join_two, Lib.join_one]
    | cons p' ps' =>
      have := ih (by simp)
      show Lib.join (pieceR p :: pieceR p' :: (ps' ++ qs).map pieceR) [38] = Lib.join (pieceR p :: pieceR p' :: ps'.map pieceR) [38] ++ [38] ++ printR qs
      rw [join_two, join_two]
      have e : Lib.join (pieceR p' :: (ps' ++ qs).map pieceR) [38] = Lib.join (pieceR p' :: ps'.map pieceR) [38] ++ [38] ++ printR qs := this
      rw [e]
      simp
end Go.Proofs.YtjbghpkdehikfaaDoor.Hand
