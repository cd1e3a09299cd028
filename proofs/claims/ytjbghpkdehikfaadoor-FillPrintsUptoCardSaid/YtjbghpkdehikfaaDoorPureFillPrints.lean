/- fill: the plain law of FillPrints. -/
import Derived.Test.YtjbghpkdehikfaaDoorPFillPrintsx2
import Derived.Test.YtjbghpkdehikfaaDoorHPure
namespace Go.Proofs.YtjbghpkdehikfaaDoor.Pure
open Go.RowKit Go.Proofs.YtjbghpkdehikfaaDoor.PFillPrints Go.Proofs.YtjbghpkdehikfaaDoorW.PrintWords Go.Proofs.YtjbghpkdehikfaaDoorW.PrintLast
set_option linter.unusedVariables false
theorem mono_le {α : Type} {f : Nat → Option α} (h : ∀ k, LeO (f k) (f (k + 1))) {r : α} {k n : Nat} (hk : f k = some r) (hn : k ≤ n) : f n = some r := by
  induction n with
  | zero => obtain rfl : k = 0 := by omega
            exact hk
  | succ n ih =>
    rcases Nat.lt_or_ge n k with h' | h'
    · obtain rfl : k = n + 1 := by omega
      exact hk
    · exact h n r (ih h')
theorem known_k : Hand.wicketmanlaw07_known.f = some true := rfl
theorem w64 (n : Int) (h0 : -9223372036854775808 ≤ n) (h1 : n ≤ 9223372036854775807) : wrap64 n = n := by unfold wrap64; omega
def getL (x : ByteArray) : List S32 → Int → ByteArray → Int × ByteArray
  | [], n, v => (n, v)
  | p :: ps, n, v => if p.f0.toList = x.toList then getL x ps (n + 1) p.f1 else getL x ps n v
def getR (x : ByteArray) (l : List S32) : ByteArray × Bool := if (getL x l 0 ⟨#[]⟩).1 = 1 then ((getL x l 0 ⟨#[]⟩).2, true) else (⟨#[]⟩, false)
theorem rdT (l : List S32) (i : Nat) (h : i < l.length) : rd_T32 l i = l[i]'h := by
  unfold rd_T32
  simp [List.getD_eq_getElem?_getD, List.getElem?_eq_getElem h]
theorem get_l (x : ByteArray) (l : List S32) (hl : l.length < 4611686018427387904) : ∀ (d i k : Nat) (n : Int) (v : ByteArray), l.length = i + d → d < k → 0 ≤ n → n ≤ i →
    fill_Get.l0 k x n v l (l.length : Int) i = some (if (getL x (l.drop i) n v).1 = 1 then ((getL x (l.drop i) n v).2, true) else (⟨#[]⟩, false)) := by
  intro d
  induction d with
  | zero =>
    intro i k n v hi hk h0 h1
    obtain ⟨k, rfl⟩ : ∃ k', k = k' + 1 := ⟨k - 1, by omega⟩
    unfold fill_Get.l0
    rw [if_neg (by omega), List.drop_eq_nil_of_le (by omega)]
    by_cases hn : n = 1
    · simp [getL, hn]
    · simp [getL, hn]
  | succ d ih =>
    intro i k n v hi hk h0 h1
    obtain ⟨k, rfl⟩ : ∃ k', k = k' + 1 := ⟨k - 1, by omega⟩
    have hlt : i < l.length := by omega
    unfold fill_Get.l0
    rw [if_pos (by omega), if_pos (by omega), if_pos (by omega), rdT l i hlt, List.drop_eq_getElem_cons hlt, w64 (n + 1) (by omega) (by omega), w64 ((i : Int) + 1) (by omega) (by omega)]
    have hi' : ((i : Int) + 1) = ((i + 1 : Nat) : Int) := by omega
    rw [hi']
    by_cases hx : (l[i]'hlt).f0.toList = x.toList
    · rw [if_pos hx, ih (i + 1) k (n + 1) _ (by omega) (by omega) (by omega) (by omega)]
      simp only [getL, if_pos hx]
    · rw [if_neg hx, ih (i + 1) k n v (by omega) (by omega) (by omega) (by omega)]
      simp only [getL, if_neg hx]
theorem get_f (x : ByteArray) (l : List S32) (hl : l.length < 4611686018427387904) (k : Nat) (hk : l.length < k) : fill_Get.f k l x = some (getR x l) := by
  unfold fill_Get.f getR
  have := get_l x l hl l.length 0 k 0 ⟨#[]⟩ (by omega) hk (by omega) (by omega)
  simpa using this
theorem getL_app (x : ByteArray) (l m : List S32) (n : Int) (v : ByteArray) : getL x (l ++ m) n v = getL x m (getL x l n v).1 (getL x l n v).2 := by
  induction l generalizing n v with
  | nil => rfl
  | cons p l ih =>
    simp only [List.cons_append, getL]
    split
    · exact ih _ _
    · exact ih _ _
def BytesI (l : List Int) : Prop := ∀ x ∈ l, 0 ≤ x ∧ x < 256
theorem rd_b {l : List Int} (h : BytesI l) (i : Nat) (hi : i < l.length) : 0 ≤ rd l i ∧ rd l i < 256 := by
  unfold rd
  rw [List.getD_eq_getElem?_getD, List.getElem?_eq_getElem (by simpa using hi)]
  exact h _ (List.getElem_mem _)
theorem tm (x : Int) (h : 0 ≤ x ∧ x < 256) : wrap64 x = x ∧ 0 ≤ Int.tmod x 24 ∧ Int.tmod x 24 < 24 := by
  refine ⟨w64 x (by omega) (by omega), ?_, ?_⟩
  · rw [Int.tmod_eq_emod_of_nonneg h.1]; omega
  · rw [Int.tmod_eq_emod_of_nonneg h.1]; omega
theorem text_l (l : List Int) (hb : BytesI l) (T : List ByteArray) (hT : T.length = 24) (hS : ∀ t ∈ T, t.size ≤ 4) : ∀ (d i k : Nat) (s : ByteArray), i + d = 60 → d < k → s.size ≤ 4 * i →
    ∃ r, wicketmanlaw06_Text.l0 k l T s i = some r ∧ r.size ≤ 240 := by
  intro d
  induction d with
  | zero =>
    intro i k s hi hk hs
    obtain ⟨k, rfl⟩ : ∃ k', k = k' + 1 := ⟨k - 1, by omega⟩
    unfold wicketmanlaw06_Text.l0
    have h60 : ¬ (i : Int) < 60 := by omega
    by_cases h : (i : Int) < (l.length : Int)
    · rw [if_pos h, if_neg h60]; exact ⟨_, rfl, by omega⟩
    · rw [if_neg h]; exact ⟨_, rfl, by omega⟩
  | succ d ih =>
    intro i k s hi hk hs
    obtain ⟨k, rfl⟩ : ∃ k', k = k' + 1 := ⟨k - 1, by omega⟩
    unfold wicketmanlaw06_Text.l0
    by_cases h : (i : Int) < (l.length : Int)
    · obtain ⟨h1, h2, h3⟩ := tm (rd l i) (rd_b hb i (by omega))
      have hT' : ((T.length : Nat) : Int) = 24 := by omega
      rw [if_pos h, if_pos (by omega), if_pos (by omega), h1, hT', if_neg (by omega), if_pos h2, if_pos h3]
      have hmem : (rdOf ByteArray.empty T (Int.tmod (rd l i) 24)).size ≤ 4 := by
        unfold rdOf
        rw [List.getD_eq_getElem?_getD, List.getElem?_eq_getElem (by omega)]
        exact hS _ (List.getElem_mem _)
      rw [if_pos (by omega), w64 ((i : Int) + 1) (by omega) (by omega), show ((i : Int) + 1) = ((i + 1 : Nat) : Int) by omega]
      exact ih (i + 1) k _ (by omega) (by omega) (by rw [ByteArray.size_append]; omega)
    · rw [if_neg h]; exact ⟨_, rfl, by omega⟩
theorem text_f (l : List Int) (hb : BytesI l) (k : Nat) (hk : 60 < k) : ∃ r, wicketmanlaw06_Text.f k l = some r ∧ r.size ≤ 240 := by
  unfold wicketmanlaw06_Text.f
  exact text_l l hb _ rfl (by decide) 60 0 k _ rfl hk (by decide)
theorem bytes_of_wf {l : List Int} (h : ∀ x ∈ l, (Lit.int .u8 x).wf = true) : BytesI l := by
  intro x hx
  have := h x hx
  simp [Lit.wf, IntKind.min, IntKind.max, IntKind.bits, IntKind.signed] at this
  omega
/-- what pairs of choices are like -/
def Small (ps : List S32) : Prop := ∀ p ∈ ps, 1 ≤ p.f0.size ∧ p.f0.size ≤ 241 ∧ p.f1.size ≤ 240
theorem pairs_l (l : List Int) (hb : BytesI l) : ∀ (d i k : Nat) (ps : List S32), 2 * i + 2 * d = 20 → 2 * d + 61 < k → ps.length ≤ i → Small ps →
    ∃ r, wicketmanlaw07_Pairs.l0 k l ps ((2 * i : Nat) : Int) = some r ∧ r.length ≤ 10 ∧ Small r := by
  intro d
  induction d with
  | zero =>
    intro i k ps hi hk hp hs
    obtain ⟨k, rfl⟩ : ∃ k', k = k' + 1 + 1 := ⟨k - 2, by omega⟩
    unfold wicketmanlaw07_Pairs.l0
    have hd : decide (((2 * i : Nat) : Int) < 20) = false := decide_eq_false (by omega)
    rw [hd]
    have : ∀ b : Bool, (if wrap64 (((2 * i : Nat) : Int) + 1) < (l.length : Int) then wicketmanlaw07_Pairs.j1 (k + 1) l ps ((2 * i : Nat) : Int) false else wicketmanlaw07_Pairs.j1 (k + 1) l ps ((2 * i : Nat) : Int) false) = some ps := by
      intro _
      rw [ite_self]
      unfold wicketmanlaw07_Pairs.j1
      rw [if_neg (by decide)]
    exact ⟨ps, this true, by omega, hs⟩
  | succ d ih =>
    intro i k ps hi hk hp hs
    obtain ⟨k, rfl⟩ : ∃ k', k = k' + 1 + 1 := ⟨k - 2, by omega⟩
    unfold wicketmanlaw07_Pairs.l0
    have hd : decide (((2 * i : Nat) : Int) < 20) = true := decide_eq_true (by omega)
    rw [hd, w64 (((2 * i : Nat) : Int) + 1) (by omega) (by omega)]
    by_cases h : ((2 * i : Nat) : Int) + 1 < (l.length : Int)
    · rw [if_pos h]
      unfold wicketmanlaw07_Pairs.j1
      have e1 : ((2 * i : Nat) : Int) + 1 = ((2 * i + 1 : Nat) : Int) := by omega
      have b0 := rd_b hb (2 * i) (by omega)
      have b1 := rd_b hb (2 * i + 1) (by omega)
      obtain ⟨t1, h1, s1⟩ := text_f [rd l ((2 * i : Nat) : Int)] (by intro x hx; rw [List.mem_singleton.1 hx]; exact b0) k (by omega)
      obtain ⟨t2, h2, s2⟩ := text_f [rd l ((2 * i + 1 : Nat) : Int), rd l ((2 * i : Nat) : Int)] (by
        intro x hx
        rcases List.mem_cons.1 hx with rfl | hx
        · exact b1
        · rw [List.mem_singleton.1 hx]; exact b0) k (by omega)
      rw [if_pos rfl, if_pos (by omega), if_pos (by omega), h1]
      simp only [Option.bind_some]
      rw [if_pos (by omega), w64 (((2 * i : Nat) : Int) + 1) (by omega) (by omega), if_pos (by omega), if_pos h, e1, h2]
      simp only [Option.bind_some]
      rw [if_pos (by omega), w64 (((2 * i : Nat) : Int) + 2) (by omega) (by omega), show ((2 * i : Nat) : Int) + 2 = ((2 * (i + 1) : Nat) : Int) by omega]
      refine ih (i + 1) k _ (by omega) (by omega) (by simp; omega) ?_
      intro p hp
      rcases List.mem_append.1 hp with hp | hp
      · exact hs p hp
      · rw [List.mem_singleton.1 hp]
        have e : ((⟨#[110]⟩ : ByteArray) ++ t1).size = 1 + t1.size := by rw [ByteArray.size_append]; rfl
        refine ⟨?_, ?_, s2⟩
        · show 1 ≤ ((⟨#[110]⟩ : ByteArray) ++ t1).size; omega
        · show ((⟨#[110]⟩ : ByteArray) ++ t1).size ≤ 241; omega
    · rw [if_neg h]
      unfold wicketmanlaw07_Pairs.j1
      rw [if_neg (by decide)]
      exact ⟨ps, rfl, by omega, hs⟩
theorem pairs_f (l : List Int) (hb : BytesI l) (k : Nat) (hk : 82 ≤ k) : ∃ r, wicketmanlaw07_Pairs.f k l = some r ∧ r.length ≤ 10 ∧ Small r := by
  unfold wicketmanlaw07_Pairs.f
  exact pairs_l l hb 10 0 k [] (by omega) (by omega) (by simp) (by intro p hp; simp at hp)
def wt (x : S32) : Nat := 1 + x.f0.size + x.f1.size
def sumW (l : List S32) : Nat := (l.map wt).sum
theorem sumW_cons (x : S32) (l : List S32) : sumW (x :: l) = wt x + sumW l := by simp [sumW]
theorem heavy_any (l : List S32) (hl : l.length < 4611686018427387904) : ∀ (d i k : Nat) (n : Int), l.length = i + d → d < k → ∃ b, wicketmanlaw07_heavy.l0 k l n i = some b := by
  intro d
  induction d with
  | zero =>
    intro i k n hi hk
    obtain ⟨k, rfl⟩ : ∃ k', k = k' + 1 := ⟨k - 1, by omega⟩
    exact ⟨_, by rw [wicketmanlaw07_heavy.l0, if_neg (by omega)]⟩
  | succ d ih =>
    intro i k n hi hk
    obtain ⟨k, rfl⟩ : ∃ k', k = k' + 1 := ⟨k - 1, by omega⟩
    obtain ⟨b, hb⟩ := ih (i + 1) k (wrap64 (n + (wrap64 ((wrap64 (1 + (((rd_T32 l i).f0).size : Int))) + (((rd_T32 l i).f1).size : Int))))) (by omega) (by omega)
    refine ⟨b, ?_⟩
    rw [wicketmanlaw07_heavy.l0, if_pos (by omega), if_pos (by omega), w64 ((i : Int) + 1) (by omega) (by omega), show ((i : Int) + 1) = ((i + 1 : Nat) : Int) by omega]
    exact hb
theorem heavy_tot (l : List S32) (hl : l.length < 4611686018427387904) (k : Nat) (hk : l.length < k) : ∃ b, wicketmanlaw07_heavy.f k l = some b := heavy_any l hl l.length 0 k 0 (by omega) hk
theorem heavy_l (l : List S32) (hl : l.length < 4611686018427387904) : ∀ (d i k : Nat) (n : Nat), l.length = i + d → d < k → n + sumW (l.drop i) < 4611686018427387904 → wicketmanlaw07_heavy.l0 k l n i = some (decide (400 < n + sumW (l.drop i))) := by
  intro d
  induction d with
  | zero =>
    intro i k n hi hk hs
    obtain ⟨k, rfl⟩ : ∃ k', k = k' + 1 := ⟨k - 1, by omega⟩
    rw [wicketmanlaw07_heavy.l0, if_neg (by omega), List.drop_eq_nil_of_le (by omega)]
    congr 1
    apply decide_eq_decide.2
    simp only [sumW, List.map_nil, List.sum_nil]
    omega
  | succ d ih =>
    intro i k n hi hk hs
    obtain ⟨k, rfl⟩ : ∃ k', k = k' + 1 := ⟨k - 1, by omega⟩
    have hlt : i < l.length := by omega
    rw [List.drop_eq_getElem_cons hlt, sumW_cons] at hs ⊢
    have hw : wt (l[i]'hlt) = 1 + (l[i]'hlt).f0.size + (l[i]'hlt).f1.size := rfl
    rw [wicketmanlaw07_heavy.l0, if_pos (by omega), if_pos (by omega), w64 ((i : Int) + 1) (by omega) (by omega), show ((i : Int) + 1) = ((i + 1 : Nat) : Int) by omega, rdT l i hlt,
      w64 (1 + ((l[i]'hlt).f0.size : Int)) (by omega) (by omega), w64 (1 + ((l[i]'hlt).f0.size : Int) + ((l[i]'hlt).f1.size : Int)) (by omega) (by omega),
      w64 ((n : Int) + (1 + ((l[i]'hlt).f0.size : Int) + ((l[i]'hlt).f1.size : Int))) (by omega) (by omega),
      show ((n : Int) + (1 + ((l[i]'hlt).f0.size : Int) + ((l[i]'hlt).f1.size : Int))) = ((n + wt (l[i]'hlt) : Nat) : Int) by omega,
      ih (i + 1) k (n + wt (l[i]'hlt)) (by omega) (by omega) (by omega)]
    congr 1
    apply decide_eq_decide.2
    omega
theorem heavy_f (l : List S32) (hl : l.length < 4611686018427387904) (hs : sumW l < 4611686018427387904) (k : Nat) (hk : l.length < k) : wicketmanlaw07_heavy.f k l = some (decide (400 < sumW l)) := by
  have := heavy_l l hl l.length 0 k 0 (by omega) hk (by rw [List.drop_zero]; omega)
  rw [List.drop_zero, Nat.zero_add] at this
  exact this
theorem sumW_mem (l : List S32) : ∀ x ∈ l, x.f0.size ≤ sumW l ∧ x.f1.size ≤ sumW l := by
  induction l with
  | nil => intro x hx; cases hx
  | cons y l ih =>
    intro x hx
    rw [sumW_cons]
    have hw : wt y = 1 + y.f0.size + y.f1.size := rfl
    rcases List.mem_cons.1 hx with rfl | hx
    · omega
    · have := ih x hx; omega
theorem sumW_len (l : List S32) : l.length ≤ sumW l := by
  induction l with
  | nil => simp [sumW]
  | cons y l ih =>
    rw [sumW_cons]
    have hw : wt y = 1 + y.f0.size + y.f1.size := rfl
    simp only [List.length_cons]
    omega
theorem sumW_le (l : List S32) (M : Nat) (h : ∀ x ∈ l, x.f0.size ≤ M ∧ x.f1.size ≤ M) : sumW l ≤ l.length * (1 + M + M) := by
  induction l with
  | nil => simp [sumW]
  | cons y l ih =>
    rw [sumW_cons]
    have hw : wt y = 1 + y.f0.size + y.f1.size := rfl
    have h1 := h y (by simp)
    have h2 := ih (fun x hx => h x (by simp [hx]))
    simp only [List.length_cons]
    rw [Nat.succ_mul]
    omega
theorem rget_l (x : ByteArray) (l : List S32) (hl : l.length < 4611686018427387904) : ∀ (d i k : Nat) (n : Int) (v : ByteArray), l.length = i + d → d < k → 0 ≤ n → n ≤ i →
    wicketmanref07_Get.l0 k l x n v i = some (if (getL x (l.drop i) n v).1 = 1 then ((getL x (l.drop i) n v).2, true) else (⟨#[]⟩, false)) := by
  intro d
  induction d with
  | zero =>
    intro i k n v hi hk h0 h1
    obtain ⟨k, rfl⟩ : ∃ k', k = k' + 1 := ⟨k - 1, by omega⟩
    rw [wicketmanref07_Get.l0, if_neg (by omega), List.drop_eq_nil_of_le (by omega)]
    by_cases hn : n = 1
    · simp [getL, hn]
    · simp [getL, hn]
  | succ d ih =>
    intro i k n v hi hk h0 h1
    obtain ⟨k, rfl⟩ : ∃ k', k = k' + 1 := ⟨k - 1, by omega⟩
    have hlt : i < l.length := by omega
    rw [wicketmanref07_Get.l0, if_pos (by omega), if_pos (by omega), rdT l i hlt, List.drop_eq_getElem_cons hlt, w64 (n + 1) (by omega) (by omega), w64 ((i : Int) + 1) (by omega) (by omega)]
    have hi' : ((i : Int) + 1) = ((i + 1 : Nat) : Int) := by omega
    rw [hi']
    by_cases hx : (l[i]'hlt).f0.toList = x.toList
    · rw [if_pos hx, ih (i + 1) k (n + 1) _ (by omega) (by omega) (by omega) (by omega)]
      simp only [getL, if_pos hx]
    · rw [if_neg hx, ih (i + 1) k n v (by omega) (by omega) (by omega) (by omega)]
      simp only [getL, if_neg hx]
theorem rget_f (x : ByteArray) (l : List S32) (hl : l.length < 4611686018427387904) (k : Nat) (hk : l.length < k) : wicketmanref07_Get.f k l x = some (getR x l) := by
  unfold wicketmanref07_Get.f getR
  have := rget_l x l hl l.length 0 k 0 ⟨#[]⟩ (by omega) hk (by omega) (by omega)
  simpa using this
theorem lawget_f (x : ByteArray) (l : List S32) (hl : l.length < 4611686018427387904) (k : Nat) (hk : l.length < k) : wicketmanlaw07_get.f k l x = some true := by
  unfold wicketmanlaw07_get.f
  rw [get_f x l hl k hk, rget_f x l hl k hk]
  simp only [Option.bind_some, beq_self_eq_true, if_true]
end Go.Proofs.YtjbghpkdehikfaaDoor.Pure
