/- fill: the plain law of FillParses. -/
import Derived.Test.YtjbghpkdehikfaaDoorPFillParsesx3
import Derived.Test.YtjbghpkdehikfaaDoorHPure
namespace Go.Proofs.YtjbghpkdehikfaaDoor.Pure
open Go.RowKit Go.Proofs.YtjbghpkdehikfaaDoor.PFillParses Go.Proofs.YtjbghpkdehikfaaDoorW.PrintWords Go.Proofs.YtjbghpkdehikfaaDoorW.PrintLast
set_option linter.unusedVariables false
theorem mono_le {α : Type} {f : Nat → Option α} (h : ∀ k, LeO (f k) (f (k + 1))) {r : α} {k n : Nat} (hk : f k = some r) (hn : k ≤ n) : f n = some r := by
  induction n with
  | zero => obtain rfl : k = 0 := by omega
            exact hk
  | succ n ih =>
    rcases Nat.lt_or_ge n k with h' | h'
    · obtain rfl : k = n + 1 := by omega
      exact hk
    · exact h n r (ih h')
theorem known_k : Hand.wicketmanlaw07_known.f = some true := rfl
theorem w64 (n : Int) (h0 : -9223372036854775808 ≤ n) (h1 : n ≤ 9223372036854775807) : wrap64 n = n := by unfold wrap64; omega
def getL (x : ByteArray) : List S32 → Int → ByteArray → Int × ByteArray
  | [], n, v => (n, v)
  | p :: ps, n, v => if p.f0.toList = x.toList then getL x ps (n + 1) p.f1 else getL x ps n v
def getR (x : ByteArray) (l : List S32) : ByteArray × Bool := if (getL x l 0 ⟨#[]⟩).1 = 1 then ((getL x l 0 ⟨#[]⟩).2, true) else (⟨#[]⟩, false)
theorem rdT (l : List S32) (i : Nat) (h : i < l.length) : rd_T32 l i = l[i]'h := by
  unfold rd_T32
  simp [List.getD_eq_getElem?_getD, List.getElem?_eq_getElem h]
theorem get_l (x : ByteArray) (l : List S32) (hl : l.length < 4611686018427387904) : ∀ (d i k : Nat) (n : Int) (v : ByteArray), l.length = i + d → d < k → 0 ≤ n → n ≤ i →
    fill_Get.l0 k x n v l (l.length : Int) i = some (if (getL x (l.drop i) n v).1 = 1 then ((getL x (l.drop i) n v).2, true) else (⟨#[]⟩, false)) := by
  intro d
  induction d with
  | zero =>
    intro i k n v hi hk h0 h1
    obtain ⟨k, rfl⟩ : ∃ k', k = k' + 1 := ⟨k - 1, by omega⟩
    unfold fill_Get.l0
    rw [if_neg (by omega), List.drop_eq_nil_of_le (by omega)]
    by_cases hn : n = 1
    · simp [getL, hn]
    · simp [getL, hn]
  | succ d ih =>
    intro i k n v hi hk h0 h1
    obtain ⟨k, rfl⟩ : ∃ k', k = k' + 1 := ⟨k - 1, by omega⟩
    have hlt : i < l.length := by omega
    unfold fill_Get.l0
    rw [if_pos (by omega), if_pos (by omega), if_pos (by omega), rdT l i hlt, List.drop_eq_getElem_cons hlt, w64 (n + 1) (by omega) (by omega), w64 ((i : Int) + 1) (by omega) (by omega)]
    have hi' : ((i : Int) + 1) = ((i + 1 : Nat) : Int) := by omega
    rw [hi']
    by_cases hx : (l[i]'hlt).f0.toList = x.toList
    · rw [if_pos hx, ih (i + 1) k (n + 1) _ (by omega) (by omega) (by omega) (by omega)]
      simp only [getL, if_pos hx]
    · rw [if_neg hx, ih (i + 1) k n v (by omega) (by omega) (by omega) (by omega)]
      simp only [getL, if_neg hx]
theorem get_f (x : ByteArray) (l : List S32) (hl : l.length < 4611686018427387904) (k : Nat) (hk : l.length < k) : fill_Get.f k l x = some (getR x l) := by
  unfold fill_Get.f getR
  have := get_l x l hl l.length 0 k 0 ⟨#[]⟩ (by omega) hk (by omega) (by omega)
  simpa using this
theorem getL_app (x : ByteArray) (l m : List S32) (n : Int) (v : ByteArray) : getL x (l ++ m) n v = getL x m (getL x l n v).1 (getL x l n v).2 := by
  induction l generalizing n v with
  | nil => rfl
  | cons p l ih =>
    simp only [List.cons_append, getL]
    split
    · exact ih _ _
    · exact ih _ _
def BytesI (l : List Int) : Prop := ∀ x ∈ l, 0 ≤ x ∧ x < 256
theorem rd_b {l : List Int} (h : BytesI l) (i : Nat) (hi : i < l.length) : 0 ≤ rd l i ∧ rd l i < 256 := by
  unfold rd
  rw [List.getD_eq_getElem?_getD, List.getElem?_eq_getElem (by simpa using hi)]
  exact h _ (List.getElem_mem _)
theorem tm (x : Int) (h : 0 ≤ x ∧ x < 256) : wrap64 x = x ∧ 0 ≤ Int.tmod x 24 ∧ Int.tmod x 24 < 24 := by
  refine ⟨w64 x (by omega) (by omega), ?_, ?_⟩
  · rw [Int.tmod_eq_emod_of_nonneg h.1]; omega
  · rw [Int.tmod_eq_emod_of_nonneg h.1]; omega
theorem text_l (l : List Int) (hb : BytesI l) (T : List ByteArray) (hT : T.length = 24) (hS : ∀ t ∈ T, t.size ≤ 4) : ∀ (d i k : Nat) (s : ByteArray), i + d = 60 → d < k → s.size ≤ 4 * i →
    ∃ r, wicketmanlaw06_Text.l0 k l T s i = some r ∧ r.size ≤ 240 := by
  intro d
  induction d with
  | zero =>
    intro i k s hi hk hs
    obtain ⟨k, rfl⟩ : ∃ k', k = k' + 1 := ⟨k - 1, by omega⟩
    unfold wicketmanlaw06_Text.l0
    have h60 : ¬ (i : Int) < 60 := by omega
    by_cases h : (i : Int) < (l.length : Int)
    · rw [if_pos h, if_neg h60]; exact ⟨_, rfl, by omega⟩
    · rw [if_neg h]; exact ⟨_, rfl, by omega⟩
  | succ d ih =>
    intro i k s hi hk hs
    obtain ⟨k, rfl⟩ : ∃ k', k = k' + 1 := ⟨k - 1, by omega⟩
    unfold wicketmanlaw06_Text.l0
    by_cases h : (i : Int) < (l.length : Int)
    · obtain ⟨h1, h2, h3⟩ := tm (rd l i) (rd_b hb i (by omega))
      have hT' : ((T.length : Nat) : Int) = 24 := by omega
      rw [if_pos h, if_pos (by omega), if_pos (by omega), h1, hT', if_neg (by omega), if_pos h2, if_pos h3]
      have hmem : (rdOf ByteArray.empty T (Int.tmod (rd l i) 24)).size ≤ 4 := by
        unfold rdOf
        rw [List.getD_eq_getElem?_getD, List.getElem?_eq_getElem (by omega)]
        exact hS _ (List.getElem_mem _)
      rw [if_pos (by omega), w64 ((i : Int) + 1) (by omega) (by omega), show ((i : Int) + 1) = ((i + 1 : Nat) : Int) by omega]
      exact ih (i + 1) k _ (by omega) (by omega) (by rw [ByteArray.size_append]; omega)
    · rw [if_neg h]; exact ⟨_, rfl, by omega⟩
theorem text_f (l : List Int) (hb : BytesI l) (k : Nat) (hk : 60 < k) : ∃ r, wicketmanlaw06_Text.f k l = some r ∧ r.size ≤ 240 := by
  unfold wicketmanlaw06_Text.f
  exact text_l l hb _ rfl (by decide) 60 0 k _ rfl hk (by decide)
theorem bytes_of_wf {l : List Int} (h : ∀ x ∈ l, (Lit.int .u8 x).wf = true) : BytesI l := by
  intro x hx
  have := h x hx
  simp [Lit.wf, IntKind.min, IntKind.max, IntKind.bits, IntKind.signed] at this
  omega
theorem same_l (l : List S32) (hl : l.length < 4611686018427387904) : ∀ (d i k : Nat), l.length = i + d → d < k → wicketmanref07_Same.l0 k l l i = some true := by
  intro d
  induction d with
  | zero =>
    intro i k hi hk
    obtain ⟨k, rfl⟩ : ∃ k', k = k' + 1 := ⟨k - 1, by omega⟩
    unfold wicketmanref07_Same.l0
    rw [if_neg (by omega)]
  | succ d ih =>
    intro i k hi hk
    obtain ⟨k, rfl⟩ : ∃ k', k = k' + 1 := ⟨k - 1, by omega⟩
    unfold wicketmanref07_Same.l0
    rw [if_pos (by omega), if_pos (by omega), if_pos (by omega), w64 ((i : Int) + 1) (by omega) (by omega), show ((i : Int) + 1) = ((i + 1 : Nat) : Int) by omega]
    simp only [beq_self_eq_true, Bool.not_true, Bool.or_self, Bool.false_eq_true, if_false]
    exact ih (i + 1) k (by omega) (by omega)
theorem same_f (l : List S32) (hl : l.length < 4611686018427387904) (k : Nat) (hk : l.length < k) : wicketmanref07_Same.f k l l = some true := by
  unfold wicketmanref07_Same.f
  rw [if_pos rfl]
  exact same_l l hl l.length 0 k (by omega) hk
open Go.Proofs.YtjbghpkdehikfaaDoor.Hand (bl bl_mk bl_is unR unescR escR escB hexOk hexV halfF halfF_lt digU plainF splitR cutR splitR_cons cutR_cons)
theorem bt_drop {s : ByteArray} {i : Nat} {c : UInt8} {r : List UInt8} (h : (bl s).drop i = c :: r) : bt s i = c.toNat ∧ i < s.size ∧ (bl s).drop (i + 1) = r := by
  have hl : i < (bl s).length := by
    rcases Nat.lt_or_ge i (bl s).length with h' | h'
    · exact h'
    · rw [List.drop_eq_nil_of_le h'] at h; cases h
  have hs : (bl s).length = s.size := by simp [bl]
  rw [List.drop_eq_getElem_cons hl] at h
  injection h with h1 h2
  refine ⟨?_, by omega, h2⟩
  unfold bt
  rw [dif_pos (by simp; omega)]
  simp only [Int.toNat_natCast]
  rw [← h1]
  rfl
theorem drop_nil {s : ByteArray} {i : Nat} (h : (bl s).drop i = []) (hi : i ≤ s.size) : i = s.size := by
  have hs : (bl s).length = s.size := by simp [bl]
  have := List.drop_eq_nil_iff.1 h
  omega
set_option maxRecDepth 100000 in
theorem digit_all : ∀ n : Nat, n < 256 → wicketmanref07_digit.f 20 (n : Int) = some (halfF (UInt8.ofNat n)) := by decide +kernel
theorem digit_f (c : UInt8) (k : Nat) (hk : 20 ≤ k) : wicketmanref07_digit.f k (c.toNat : Int) = some (halfF c) := by
  have := digit_all c.toNat c.toNat_lt
  rw [UInt8.ofNat_toNat] at this
  exact mono_le (wicketmanref07_digit.mono _) this hk
def nums (o : List UInt8) : List Int := o.map fun b => (b.toNat : Int)
theorem nums_app (a b : List UInt8) : nums (a ++ b) = nums a ++ nums b := by simp [nums]
theorem str_nums (o : List UInt8) : strOfNums (nums o) = ⟨o.toArray⟩ := by
  unfold strOfNums nums
  congr 1
  rw [List.map_map]
  congr 1
  conv => rhs; rw [← List.map_id o]
  apply List.map_congr_left
  intro a _
  simp
theorem hexV_val (a b : UInt8) (ha : 0 ≤ halfF a) (hb : 0 ≤ halfF b) : wrap64 (wrap64 (16 * halfF a) + halfF b) % 256 = ((hexV a b).toNat : Int) := by
  have h1 := halfF_lt a; have h2 := halfF_lt b
  obtain ⟨m, hm⟩ := Int.eq_ofNat_of_zero_le ha
  obtain ⟨n, hn⟩ := Int.eq_ofNat_of_zero_le hb
  unfold hexV
  rw [hm, hn]
  have : (16 * m + n) < 256 := by omega
  simp only [Int.toNat_natCast]
  rw [UInt8.toNat_ofNat_of_lt' this, w64 (16 * (m : Int)) (by omega) (by omega), w64 (16 * (m : Int) + n) (by omega) (by omega)]
  omega
theorem ne43 {c : UInt8} (h : c ≠ 43) : ¬ ((c.toNat : Nat) : Int) = 43 := fun e => h (UInt8.toNat_inj.1 (by have e2 : c.toNat = 43 := (by omega); exact e2))
theorem ne37 {c : UInt8} (h : c ≠ 37) : ¬ ((c.toNat : Nat) : Int) = 37 := fun e => h (UInt8.toNat_inj.1 (by have e2 : c.toNat = 37 := (by omega); exact e2))
theorem un_end (s : ByteArray) (i k : Nat) (o : List UInt8) (h : i = s.size) : wicketmanref07_Unescape.l0 (k + 1) s (nums o) i = some (⟨o.toArray⟩, true) := by
  rw [wicketmanref07_Unescape.l0, if_neg (by omega), str_nums]
theorem un_plus (s : ByteArray) (hs : s.size < 1000000000) (i k : Nat) (o r : List UInt8) (hd : (bl s).drop i = 43 :: r) (ho : o.length ≤ s.size) :
    wicketmanref07_Unescape.l0 (k + 1) s (nums o) i = wicketmanref07_Unescape.l0 k s (nums (o ++ [32])) ((i + 1 : Nat) : Int) := by
  obtain ⟨hb, hlt, hd1⟩ := bt_drop hd
  have hno : (nums o).length = o.length := by simp [nums]
  have hb' : bt s i = 43 := hb
  rw [wicketmanref07_Unescape.l0, if_pos (by omega), if_pos (by omega), hb', if_pos rfl, if_pos (by omega), w64 ((i : Int) + 1) (by omega) (by omega), nums_app]
  rfl
theorem un_else (s : ByteArray) (hs : s.size < 1000000000) (i k : Nat) (o r : List UInt8) (c : UInt8) (h1 : c ≠ 43) (h2 : c ≠ 37) (hd : (bl s).drop i = c :: r) (ho : o.length ≤ s.size) :
    wicketmanref07_Unescape.l0 (k + 1) s (nums o) i = wicketmanref07_Unescape.l0 k s (nums (o ++ [c])) ((i + 1 : Nat) : Int) := by
  obtain ⟨hb, hlt, hd1⟩ := bt_drop hd
  have hno : (nums o).length = o.length := by simp [nums]
  rw [wicketmanref07_Unescape.l0, if_pos (by omega), if_pos (by omega), hb, if_neg (ne43 h1), if_neg (ne37 h2), if_pos (by omega), w64 ((i : Int) + 1) (by omega) (by omega), nums_app]
  rfl
theorem un_short (s : ByteArray) (hs : s.size < 1000000000) (i k : Nat) (o r : List UInt8) (hd : (bl s).drop i = 37 :: r) (hr : i + 2 ≥ s.size) :
    wicketmanref07_Unescape.l0 (k + 1 + 1) s (nums o) i = some (⟨#[]⟩, false) := by
  obtain ⟨hb, hlt, hd1⟩ := bt_drop hd
  have hb' : bt s i = 37 := hb
  rw [wicketmanref07_Unescape.l0, if_pos (by omega), if_pos (by omega), hb', if_neg (by omega), if_pos rfl, w64 ((i : Int) + 2) (by omega) (by omega), if_pos (by omega), wicketmanref07_Unescape.j1, if_pos rfl]
theorem un_go (s : ByteArray) (hs : s.size < 1000000000) (i k : Nat) (o r : List UInt8) (a b : UInt8) (hd : (bl s).drop i = 37 :: a :: b :: r) (hk : 30 ≤ k) :
    wicketmanref07_Unescape.l0 (k + 1) s (nums o) i = wicketmanref07_Unescape.j1 k s (nums o) i (!(hexOk true a b)) := by
  obtain ⟨hb, hlt, hd1⟩ := bt_drop hd
  obtain ⟨hba, hlta, hd2⟩ := bt_drop hd1
  obtain ⟨hbb, hltb, hd3⟩ := bt_drop hd2
  have hb' : bt s i = 37 := hb
  have ei1 : ((i : Int) + 1) = ((i + 1 : Nat) : Int) := by omega
  have ei2 : ((i : Int) + 2) = ((i + 1 + 1 : Nat) : Int) := by omega
  rw [wicketmanref07_Unescape.l0, if_pos (by omega), if_pos (by omega), hb', if_neg (by omega), if_pos rfl, w64 ((i : Int) + 2) (by omega) (by omega), w64 ((i : Int) + 1) (by omega) (by omega), if_neg (by omega), if_pos (by omega), if_pos (by omega), ei1, hba, digit_f a k (by omega), Option.bind_some]
  by_cases ha : halfF a < 0
  · have hx : hexOk true a b = false := by unfold hexOk; rw [decide_eq_false (by omega : ¬ 0 ≤ halfF a)]; rfl
    rw [if_pos ha, hx]
    rfl
  · rw [if_neg ha, if_pos (by omega), if_pos (by omega), ei2, hbb, digit_f b k (by omega), Option.bind_some]
    congr 1
    unfold hexOk
    rw [decide_eq_true (by omega : 0 ≤ halfF a)]
    by_cases hbn : halfF b < 0
    · rw [decide_eq_true hbn, decide_eq_false (by omega : ¬ 0 ≤ halfF b)]; rfl
    · rw [decide_eq_false hbn, decide_eq_true (by omega : 0 ≤ halfF b)]; rfl
theorem un_j (s : ByteArray) (hs : s.size < 1000000000) (i k : Nat) (o r : List UInt8) (a b : UInt8) (hd : (bl s).drop i = 37 :: a :: b :: r) (hk : 30 ≤ k) (ho : o.length ≤ s.size) (ha : 0 ≤ halfF a) (hb2 : 0 ≤ halfF b) :
    wicketmanref07_Unescape.j1 (k + 1) s (nums o) i false = wicketmanref07_Unescape.l0 k s (nums (o ++ [hexV a b])) ((i + 1 + 1 + 1 : Nat) : Int) := by
  obtain ⟨hb, hlt, hd1⟩ := bt_drop hd
  obtain ⟨hba, hlta, hd2⟩ := bt_drop hd1
  obtain ⟨hbb, hltb, hd3⟩ := bt_drop hd2
  have hno : (nums o).length = o.length := by simp [nums]
  have ei1 : ((i : Int) + 1) = ((i + 1 : Nat) : Int) := by omega
  have ei2 : ((i : Int) + 2) = ((i + 1 + 1 : Nat) : Int) := by omega
  have ei3 : (((i + 1 + 1 : Nat) : Int) + 1) = ((i + 1 + 1 + 1 : Nat) : Int) := by omega
  rw [wicketmanref07_Unescape.j1, if_neg (by decide), w64 ((i : Int) + 1) (by omega) (by omega), if_pos (by omega), if_pos (by omega), ei1, hba, digit_f a k (by omega), Option.bind_some,
    w64 ((i : Int) + 2) (by omega) (by omega), if_pos (by omega), if_pos (by omega), ei2, hbb, digit_f b k (by omega), Option.bind_some,
    if_pos (by omega), hexV_val a b ha hb2, w64 (((i + 1 + 1 : Nat) : Int) + 1) (by omega) (by omega), ei3, nums_app]
  rfl
def unO (o : List UInt8) : Option (List UInt8) → Option (ByteArray × Bool)
  | some u => some (⟨(o ++ u).toArray⟩, true)
  | none => some (⟨#[]⟩, false)
theorem unO_map (o : List UInt8) (c : UInt8) (u : Option (List UInt8)) : unO (o ++ [c]) u = unO o (u.map (c :: ·)) := by cases u <;> simp [unO]
theorem unO_map' (o : List UInt8) (c : UInt8) (u : Option (List UInt8)) : unO (o ++ [c]) u = unO o (u.map fun x => c :: x) := unO_map o c u
theorem un_l (s : ByteArray) (hs : s.size < 1000000000) : ∀ (n : Nat) (r : List UInt8) (i k : Nat) (o : List UInt8), r.length ≤ n → (bl s).drop i = r → i ≤ s.size → 2 * r.length + 40 < k → o.length + r.length ≤ s.size →
    wicketmanref07_Unescape.l0 k s (nums o) i = unO o (unR r) := by
  intro n
  induction n with
  | zero =>
    intro r i k o hr hd hi hk ho
    obtain rfl : r = [] := List.length_eq_zero_iff.1 (by omega)
    obtain ⟨k, rfl⟩ : ∃ k', k = k' + 1 := ⟨k - 1, by omega⟩
    rw [un_end s i k o (drop_nil hd hi)]
    simp [unR, unO]
  | succ n ih =>
    intro r i k o hr hd hi hk ho
    obtain ⟨k, rfl⟩ : ∃ k', k = k' + 1 + 1 := ⟨k - 2, by omega⟩
    cases r with
    | nil =>
      rw [un_end s i (k + 1) o (drop_nil hd hi)]
      simp [unR, unO]
    | cons c r =>
      obtain ⟨hb, hlt, hd1⟩ := bt_drop hd
      simp only [List.length_cons] at hr hk ho
      by_cases h43 : c = 43
      · subst h43
        rw [un_plus s hs i (k + 1) o r hd (by omega), ih r (i + 1) (k + 1) (o ++ [32]) (by omega) hd1 (by omega) (by omega) (by simp only [List.length_append, List.length_cons, List.length_nil]; omega), Hand.unR_plus, unO_map]
      · by_cases h37 : c = 37
        · subst h37
          cases r with
          | nil =>
            have hz := drop_nil hd1 (by omega)
            rw [un_short s hs i k o [] hd (by omega)]
            simp [unR, unO]
          | cons a r =>
            obtain ⟨hba, hlta, hd2⟩ := bt_drop hd1
            cases r with
            | nil =>
              have hz := drop_nil hd2 (by omega)
              rw [un_short s hs i k o [a] hd (by omega)]
              simp [unR, unO]
            | cons b r =>
              obtain ⟨hbb, hltb, hd3⟩ := bt_drop hd2
              simp only [List.length_cons] at hr hk ho
              rw [un_go s hs i (k + 1) o r a b hd (by omega), Hand.unR_hex]
              cases hx : hexOk true a b with
              | false =>
                rw [show (!false) = true from rfl, wicketmanref07_Unescape.j1, if_pos rfl]
                rfl
              | true =>
                unfold hexOk at hx
                simp only [Bool.and_eq_true, decide_eq_true_eq] at hx
                rw [show (!true) = false from rfl, un_j s hs i k o r a b hd (by omega) (by omega) (by omega) (by omega), ih r (i + 1 + 1 + 1) k (o ++ [hexV a b]) (by omega) hd3 (by omega) (by omega) (by simp only [List.length_append, List.length_cons, List.length_nil]; omega), unO_map]
                rfl
        · rw [un_else s hs i (k + 1) o r c h43 h37 hd (by omega), ih r (i + 1) (k + 1) (o ++ [c]) (by omega) hd1 (by omega) (by omega) (by simp only [List.length_append, List.length_cons, List.length_nil]; omega), Hand.unR_else c r h43 h37, unO_map]
theorem un_f (s : ByteArray) (hs : s.size < 1000000000) (k : Nat) (hk : 2 * s.size + 40 < k) : wicketmanref07_Unescape.f k s = some (⟨(unescR (bl s)).1.toArray⟩, (unescR (bl s)).2) := by
  have hl : (bl s).length = s.size := by simp [bl]
  have := un_l s hs s.size (bl s) 0 k [] (by omega) rfl (by omega) (by omega) (by simp only [List.length_nil]; omega)
  unfold wicketmanref07_Unescape.f unescR
  rw [show nums [] = ([] : List Int) from rfl] at this
  rw [show ((0 : Nat) : Int) = 0 from rfl] at this
  rw [this]
  cases unR (bl s) <;> rfl
theorem texts_f (s : ByteArray) (hs : s.size < 1000000000) (k : Nat) (hk : 2 * s.size + 40 < k) : wicketmanlaw07_texts.f k s = some true := by
  have hl : (bl s).length = s.size := by simp [bl]
  unfold wicketmanlaw07_texts.f
  rw [show Hand.fill_Unescape.f s = some (⟨(unescR (bl s)).1.toArray⟩, (unescR (bl s)).2) by unfold Hand.fill_Unescape.f; rw [if_pos (by omega)],
    un_f s hs k hk, show Hand.fill_Escape.f s = some ⟨(escR (bl s)).toArray⟩ by unfold Hand.fill_Escape.f; rw [if_pos (by omega)],
    show Hand.wicketmanref07_Escape.f s = some ⟨(escR (bl s)).toArray⟩ by unfold Hand.wicketmanref07_Escape.f; rw [if_pos (by omega)]]
  simp only [Option.bind_some, beq_self_eq_true, if_true]
open Go.Proofs.YtjbghpkdehikfaaDoor.Hand (splitR_ne splitR_at cutR_at ext_take ext_drop pairR pairsR parseR Pr pairR_of pairsR_len splitR_len splitR_mem cutR_len unescR)
def mkB (l : List UInt8) : ByteArray := ⟨l.toArray⟩
theorem bl_mkB (l : List UInt8) : bl (mkB l) = l := by simp [bl, mkB]
theorem size_mkB (l : List UInt8) : (mkB l).size = l.length := rfl
theorem ext_gen (s : ByteArray) (i j : Nat) : s.extract i j = mkB (((bl s).drop i).take (j - i)) := by
  apply ByteArray.ext
  apply Array.ext'
  simp [bl, mkB]
def preP (q : List UInt8) : List (List UInt8) → List (List UInt8)
  | [] => [q]
  | p :: ps => (q ++ p) :: ps
theorem preP_nil (l : List (List UInt8)) (h : l ≠ []) : preP [] l = l := by
  cases l with
  | nil => exact absurd rfl h
  | cons p ps => rfl
theorem take_next {l : List UInt8} {f i : Nat} {x : UInt8} {r : List UInt8} (hf : f ≤ i) (h : l.drop i = x :: r) : (l.drop f).take (i + 1 - f) = (l.drop f).take (i - f) ++ [x] := by
  have hl : i < l.length := by
    rcases Nat.lt_or_ge i l.length with h' | h'
    · exact h'
    · rw [List.drop_eq_nil_of_le h'] at h; cases h
  have hx : l[i]? = some x := by
    rw [List.drop_eq_getElem_cons hl] at h
    injection h with h1 _
    rw [List.getElem?_eq_getElem hl, h1]
  rw [show i + 1 - f = (i - f) + 1 by omega, List.take_add_one, List.getElem?_drop, show f + (i - f) = i by omega, hx]
  rfl
theorem spl_l (s : ByteArray) (hs : s.size < 1000000000) (c : UInt8) : ∀ (r : List UInt8) (i f k : Nat) (o : List (List UInt8)), (bl s).drop i = r → i ≤ s.size → f ≤ i → r.length + 1 < k → o.length ≤ i →
    wicketmanref07_Split.l0 k s (c.toNat : Int) (o.map mkB) f i = some ((o ++ preP (((bl s).drop f).take (i - f)) (splitR c r)).map mkB) := by
  intro r
  induction r with
  | nil =>
    intro i f k o hd hi hf hk ho
    obtain ⟨k, rfl⟩ : ∃ k', k = k' + 1 + 1 := ⟨k - 2, by omega⟩
    have he := drop_nil hd hi
    have hno : (o.map mkB).length = o.length := by simp
    rw [wicketmanref07_Split.l0, if_pos (by omega), if_pos (by omega), if_pos (by omega), if_pos (by omega), if_pos (by omega), w64 ((i : Int) + 1) (by omega) (by omega)]
    rw [wicketmanref07_Split.l0, if_neg (by omega), Int.toNat_natCast, Int.toNat_natCast, ext_gen]
    simp [splitR, preP]
  | cons x r ih =>
    intro i f k o hd hi hf hk ho
    obtain ⟨k, rfl⟩ : ∃ k', k = k' + 1 := ⟨k - 1, by simp at hk; omega⟩
    obtain ⟨hb, hlt, hd1⟩ := bt_drop hd
    simp only [List.length_cons] at hk
    have hno : (o.map mkB).length = o.length := by simp
    have ei : ((i : Int) + 1) = ((i + 1 : Nat) : Int) := by omega
    rw [wicketmanref07_Split.l0, if_pos (by omega), if_neg (by omega), if_pos (by omega), if_pos (by omega), hb, w64 ((i : Int) + 1) (by omega) (by omega), ei, splitR_cons]
    by_cases hx : x = c
    · subst hx
      rw [if_pos rfl, if_pos (by omega), if_pos (by omega), if_pos (by omega), if_pos rfl, Int.toNat_natCast, Int.toNat_natCast, ext_gen]
      have := ih (i + 1) (i + 1) k (o ++ [((bl s).drop f).take (i - f)]) hd1 (by omega) (by omega) (by omega) (by simp; omega)
      rw [List.map_append] at this
      rw [show List.map mkB [((bl s).drop f).take (i - f)] = [mkB (((bl s).drop f).take (i - f))] from rfl] at this
      rw [this, Nat.sub_self, List.take_zero, preP_nil _ (splitR_ne x r)]
      simp [preP]
    · have nx : ¬ ((x.toNat : Int) = (c.toNat : Int)) := fun e => hx (UInt8.toNat_inj.1 (by omega))
      rw [if_neg nx, if_neg hx, ih (i + 1) f k o hd1 (by omega) (by omega) (by omega) (by omega), take_next hf hd]
      cases hsp : splitR c r with
      | nil => exact absurd hsp (splitR_ne c r)
      | cons p ps => simp [preP]
theorem spl_f (l : List UInt8) (hl : l.length < 1000000000) (c : UInt8) (k : Nat) (hk : l.length + 1 < k) : wicketmanref07_Split.f k (mkB l) (c.toNat : Int) = some ((splitR c l).map mkB) := by
  have := spl_l (mkB l) (by rw [size_mkB]; omega) c l 0 0 k [] (by rw [bl_mkB]; rfl) (by omega) (by omega) hk (by simp)
  unfold wicketmanref07_Split.f
  rw [show ((0 : Nat) : Int) = 0 from rfl] at this
  rw [show List.map mkB [] = ([] : List ByteArray) from rfl] at this
  rw [this, Nat.sub_self, List.take_zero, preP_nil _ (splitR_ne c l), List.nil_append]
theorem rd_mk (l : List (List UInt8)) (i : Nat) (h : i < l.length) : rdOf ByteArray.empty (l.map mkB) i = mkB (l[i]'h) := by
  unfold rdOf
  simp [List.getD_eq_getElem?_getD, List.getElem?_eq_getElem h]
/-- a piece: it has a sign, or none -/
theorem cut_two (c : UInt8) (p : List UInt8) : (cutR c p = (p, [], false) ∧ splitR c p = [p]) ∨ (∃ (k : Nat) (ps : List (List UInt8)), k + 1 ≤ p.length ∧ cutR c p = (p.take k, p.drop (k + 1), true) ∧ splitR c p = p.take k :: ps) := by
  by_cases h : Lib.indexByte p c < 0
  · exact .inl ⟨(cutR_at c p).1 h, (splitR_at c p).1 h⟩
  · obtain ⟨k, hk, h1, h2⟩ := (cutR_at c p).2 (by omega)
    obtain ⟨k', hk', _, h3⟩ := (splitR_at c p).2 (by omega)
    obtain rfl : k = k' := by omega
    exact .inr ⟨k, _, h1, h2, h3⟩
theorem unB (l : List UInt8) (hl : l.length < 1000000000) (k : Nat) (hk : 2 * l.length + 40 < k) : wicketmanref07_Unescape.f k (mkB l) = some (mkB (unescR l).1, (unescR l).2) := by
  have := un_f (mkB l) (by rw [size_mkB]; exact hl) k (by rw [size_mkB]; exact hk)
  rw [bl_mkB] at this
  exact this
theorem nil_mk (l : List UInt8) : (mkB l).toList = ([] : List UInt8) ↔ l = [] := by rw [Lib.toList_data]; rfl
theorem mkS_mk (n v : List UInt8) : (⟨mkB n, mkB v⟩ : S32) = HandP.mkS (n, v) := rfl
theorem par_l (all : List (List UInt8)) (M : Nat) (hM : M < 1000000000) (hall : ∀ p ∈ all, p.length ≤ M) (hn : all.length ≤ 30) : ∀ (d i k : Nat) (o : List Pr), all.length = i + d → 2 * M + 60 + d < k → o.length ≤ i →
    wicketmanref07_Parse.l0 k (all.map mkB) (o.map HandP.mkS) i = some (match pairsR (all.drop i) with | some xs => ((o ++ xs).map HandP.mkS, 0) | none => ([], 10)) := by
  intro d
  induction d with
  | zero =>
    intro i k o hi hk ho
    obtain ⟨k, rfl⟩ : ∃ k', k = k' + 1 := ⟨k - 1, by omega⟩
    rw [wicketmanref07_Parse.l0, if_neg (by simp; omega), List.drop_eq_nil_of_le (by omega)]
    simp [pairsR]
  | succ d ih =>
    intro i k o hi hk ho
    obtain ⟨k, rfl⟩ : ∃ k', k = k' + 1 := ⟨k - 1, by omega⟩
    have hlt : i < all.length := by omega
    have hml : (all.map mkB).length = all.length := by simp
    have hol : (o.map HandP.mkS).length = o.length := by simp
    obtain ⟨p, hp⟩ : ∃ p, all[i]'hlt = p := ⟨_, rfl⟩
    have hpM : p.length ≤ M := hall p (hp ▸ List.getElem_mem _)
    rw [wicketmanref07_Parse.l0, if_pos (by omega), if_pos (by omega), rd_mk all i hlt, hp, show (61 : Int) = ((61 : UInt8).toNat : Int) from rfl, spl_f p (by omega) 61 k (by omega)]
    rw [Option.bind_some, List.drop_eq_getElem_cons hlt, hp]
    simp only [pairsR]
    rw [w64 ((i : Int) + 1) (by omega) (by omega), show ((i : Int) + 1) = ((i + 1 : Nat) : Int) by omega]
    have hIH : ∀ x : Pr, wicketmanref07_Parse.l0 k (all.map mkB) (o.map HandP.mkS ++ [HandP.mkS x]) ((i + 1 : Nat) : Int) = some (match pairsR (all.drop (i + 1)) with | some xs => ((o ++ (x :: xs)).map HandP.mkS, 0) | none => ([], 10)) := by
      intro x
      have := ih (i + 1) k (o ++ [x]) (by omega) (by omega) (by simp; omega)
      rw [List.map_append] at this
      rw [show List.map HandP.mkS [x] = [HandP.mkS x] from rfl] at this
      rw [this]
      cases pairsR (all.drop (i + 1)) <;> simp
    have hfin : ∀ (u v : List UInt8) (hx : pairR p = some (u, v)), (if (o.map HandP.mkS).length < 4398046511104 then wicketmanref07_Parse.l0 k (all.map mkB) (o.map HandP.mkS ++ [(⟨mkB u, mkB v⟩ : S32)]) ((i + 1 : Nat) : Int) else none) = some (match (match pairR p, pairsR (all.drop (i + 1)) with | some x, some xs => some (x :: xs) | _, _ => none) with | some xs => ((o ++ xs).map HandP.mkS, 0) | none => ([], 10)) := by
      intro u v hx
      rw [if_pos (by omega), mkS_mk, hIH (u, v), hx]
      cases pairsR (all.drop (i + 1)) <;> rfl
    have hbad : ∀ (hx : pairR p = none), (some (([] : List S32), (10 : Int)) : Option (List S32 × Int)) = some (match (match pairR p, pairsR (all.drop (i + 1)) with | some x, some xs => some (x :: xs) | _, _ => none) with | some xs => ((o ++ xs).map HandP.mkS, 0) | none => ([], 10)) := by
      intro hx
      rw [hx]
    obtain ⟨z, hz⟩ : ∃ z, pairR p = z := ⟨_, rfl⟩
    rw [hz] at hfin hbad ⊢
    clear hIH
    obtain ⟨u, hu⟩ : ∃ u, unescR (cutR 61 p).1 = u := ⟨_, rfl⟩
    obtain ⟨v, hv⟩ : ∃ v, unescR (cutR 61 p).2.1 = v := ⟨_, rfl⟩
    have hpr := pairR_of (x := p) (nm := u.1) (o1 := u.2) (vl := v.1) (o2 := v.2) (by rw [hu]) (by rw [hv])
    rw [hz] at hpr
    rcases cut_two 61 p with ⟨hc, hsp⟩ | ⟨j, ps, hj, hc, hsp⟩
    · rw [hc] at hu hv
      obtain rfl : v = ([], true) := by rw [← hv]; rfl
      have r0 : rdOf ByteArray.empty ((splitR 61 p).map mkB) 0 = mkB p := by rw [hsp]; rfl
      have l0 : 0 < (((splitR 61 p).map mkB).length : Int) := by rw [hsp]; simp
      rw [r0, size_mkB, if_pos l0, if_pos (by omega), if_pos (by omega), Int.toNat_natCast]
      have hx : (mkB p).extract 0 p.length = mkB p := by have := ext_take p p.length (by omega); rw [List.take_length] at this; exact this
      rw [hx, unB p (by omega) k (by omega), Option.bind_some, if_neg (by omega)]
      simp only [hu]
      simp only [nil_mk]
      by_cases h2 : u.2 = true
      · rw [if_pos h2]
        by_cases h1 : u.1 = []
        · rw [if_pos h1]
          exact hbad (by rw [hpr, if_neg (by simp [h1])])
        · rw [if_neg h1]
          exact hfin u.1 [] (by rw [hpr, if_pos ⟨h2, rfl, h1⟩])
      · rw [if_neg h2]
        exact hbad (by rw [hpr, if_neg (by simp [h2])])
    · rw [hc] at hu hv
      have hj1 : (p.take j).length = j := by rw [List.length_take]; omega
      have r0 : rdOf ByteArray.empty ((splitR 61 p).map mkB) 0 = mkB (p.take j) := by rw [hsp]; rfl
      have l0 : ((splitR 61 p).map mkB).length = ps.length + 1 := by rw [hsp]; simp
      have hw : wrap64 ((j : Int) + 1) = ((j + 1 : Nat) : Int) := by rw [w64 ((j : Int) + 1) (by omega) (by omega)]; omega
      rw [r0, size_mkB, size_mkB, hj1, hw, l0]
      clear hw l0 r0
      rw [if_pos (by omega), if_pos (by omega), if_pos (by omega), Int.toNat_natCast, Int.toNat_natCast]
      have hx : (mkB p).extract 0 j = mkB (p.take j) := ext_take p j (by omega)
      have hy : (mkB p).extract (j + 1) p.length = mkB (p.drop (j + 1)) := ext_drop p (j + 1)
      rw [hx, hy, unB (p.take j) (by omega) k (by omega), Option.bind_some, if_pos (by omega), if_pos (by omega), if_pos (by omega), unB (p.drop (j + 1)) (by rw [List.length_drop]; omega) k (by rw [List.length_drop]; omega), Option.bind_some]
      simp only [hu, hv]
      simp only [nil_mk]
      by_cases h2 : u.2 = true
      · rw [if_pos h2]
        by_cases h3 : v.2 = true
        · rw [if_pos h3]
          by_cases h1 : u.1 = []
          · rw [if_pos h1]
            exact hbad (by rw [hpr, if_neg (by simp [h1])])
          · rw [if_neg h1]
            exact hfin u.1 v.1 (by rw [hpr, if_pos ⟨h2, h3, h1⟩])
        · rw [if_neg h3]
          exact hbad (by rw [hpr, if_neg (by simp [h3])])
      · rw [if_neg h2]
        exact hbad (by rw [hpr, if_neg (by simp [h2])])
theorem par_f (l : List Int) (hl : l.length < 1000000) (k : Nat) (hk : 2 * l.length + 200 < k) : wicketmanref07_Parse.f k l = some ((parseR (bl (strOfNums l))).1.map HandP.mkS, (parseR (bl (strOfNums l))).2) := by
  obtain ⟨t, ht⟩ : ∃ t, bl (strOfNums l) = t := ⟨_, rfl⟩
  have htl : t.length = l.length := by rw [← ht]; simp [bl, strOfNums]
  have hts : strOfNums l = mkB t := by rw [← ht]; exact (bl_mk _).symm
  rw [ht]
  unfold wicketmanref07_Parse.f parseR
  by_cases h0 : t = []
  · rw [if_pos (by rw [h0] at htl; simp at htl; omega), if_pos h0]
    rfl
  · have hp0 : 0 < t.length := List.length_pos_iff.2 h0
    rw [if_neg (by omega), if_neg h0, hts, show (38 : Int) = ((38 : UInt8).toNat : Int) from rfl, spl_f t (by omega) 38 k (by omega), Option.bind_some]
    have hsl := splitR_len 38 t
    have hml : ((splitR 38 t).map mkB).length = (splitR 38 t).length := by simp
    by_cases h1 : 30 ≤ t.count 38
    · rw [if_pos (by omega), if_pos h1]
      rfl
    · rw [if_neg (by omega), if_neg h1]
      have := par_l (splitR 38 t) t.length (by omega) (splitR_mem 38 t) (by omega) (splitR 38 t).length 0 k [] (by omega) (by omega) (by simp)
      rw [show ((0 : Nat) : Int) = 0 from rfl] at this
      rw [show List.map HandP.mkS [] = ([] : List S32) from rfl] at this
      rw [this, List.drop_zero]
      cases pairsR (splitR 38 t) <;> simp
theorem parse_len (t : List UInt8) : (parseR t).1.length ≤ 31 := by
  unfold parseR
  split
  · simp
  · split
    · simp
    · cases h : pairsR (splitR 38 t) with
      | none => simp
      | some xs =>
        have := pairsR_len h
        have := splitR_len 38 t
        simp; omega
theorem parse_err (t : List UInt8) : 0 ≤ (parseR t).2 ∧ (parseR t).2 ≤ 10 := by
  unfold parseR
  split
  · simp
  · split
    · simp
    · cases pairsR (splitR 38 t) <;> simp
theorem parses_f (l : List Int) (hl : l.length < 1000000) (k : Nat) (hk : 2 * l.length + 200 < k) : wicketmanlaw07_parses.f k l = some true := by
  have hn := parse_len (bl (strOfNums l))
  unfold wicketmanlaw07_parses.f
  rw [show HandP.fill_Parse.f l = some ((parseR (bl (strOfNums l))).1.map HandP.mkS, (parseR (bl (strOfNums l))).2) by unfold HandP.fill_Parse.f; rw [if_pos (by omega)], par_f l hl k hk]
  simp only [Option.bind_some]
  rw [same_f _ (by simp; omega) k (by simp; omega)]
  simp only [Option.bind_some, if_true]
  have := parse_err (bl (strOfNums l))
  rw [w64 _ (by omega) (by omega), beq_self_eq_true]
end Go.Proofs.YtjbghpkdehikfaaDoor.Pure
