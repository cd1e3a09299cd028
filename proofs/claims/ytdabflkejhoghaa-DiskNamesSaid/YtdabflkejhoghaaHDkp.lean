/- The plain model of a disk's lists: names in rising order, a file put in its place, struck, looked up. -/
import Derived.WideShapes
import Derived.WideAt
open Go
namespace Go.Proofs.Ytdabflkejhoghaa.Hand
set_option linter.unusedVariables false

/-- A file: its name, its bytes, how many of them last. -/
structure F where
  name : List UInt8
  b : List UInt8
  lasts : Nat
/-- A disk: its files by rising names, its room, its fuse, is it dead? -/
structure Dk where
  files : List F
  room : Nat
  fuse : Option Nat
  dead : Bool

section
variable {α β : Type} (nm : α → List UInt8)
/-- in its place, among rising names -/
def insBy (x : α) : List α → List α
  | [] => [x]
  | y :: r => if bytesBefore (nm x) (nm y) then x :: y :: r else y :: insBy x r
def delBy (k : List UInt8) (l : List α) : List α := l.filter fun y => !(nm y == k)
def lookBy (k : List UInt8) (l : List α) : Option α := l.find? fun y => nm y == k
def putBy (x : α) (l : List α) : List α := insBy nm x (delBy nm (nm x) l)
def Rising (l : List α) : Prop := l.Pairwise fun x y => bytesBefore (nm x) (nm y) = true
variable {nm}
theorem bb_ne {a b : List UInt8} (h : bytesBefore a b = true) : a ≠ b := fun e => by rw [e, WideAt.bytes_irrefl] at h; cases h
theorem bb_asymm {a b : List UInt8} (h : bytesBefore a b = true) : bytesBefore b a = false := by
  cases hb : bytesBefore b a
  · rfl
  · have := WideShapes.bytes_trans _ _ _ h hb
    rw [WideAt.bytes_irrefl] at this; cases this
theorem bb_of_not {a b : List UInt8} (h : ¬ bytesBefore a b = true) (hne : a ≠ b) : bytesBefore b a = true :=
  (WideAt.bytes_total a b hne).resolve_left h
theorem mem_insBy {x y : α} : ∀ {l : List α}, y ∈ insBy nm x l ↔ y = x ∨ y ∈ l
  | [] => by simp [insBy]
  | z :: r => by
    unfold insBy
    split
    · simp
    · simp only [List.mem_cons, mem_insBy (l := r)]
      constructor
      · rintro (h | h | h) <;> simp [h]
      · rintro (h | h | h) <;> simp [h]
theorem length_insBy (x : α) : ∀ l : List α, (insBy nm x l).length = l.length + 1
  | [] => rfl
  | z :: r => by unfold insBy; split <;> simp [length_insBy x r]
theorem map_insBy {nm' : β → List UInt8} (φ : α → β) (hφ : ∀ x, nm' (φ x) = nm x) (x : α) : ∀ l : List α, insBy nm' (φ x) (l.map φ) = (insBy nm x l).map φ
  | [] => rfl
  | z :: r => by
    simp only [List.map_cons, insBy, hφ]
    split
    · rfl
    · simp [map_insBy φ hφ x r]
theorem map_delBy {nm' : β → List UInt8} (φ : α → β) (hφ : ∀ x, nm' (φ x) = nm x) (k : List UInt8) (l : List α) : delBy nm' k (l.map φ) = (delBy nm k l).map φ := by
  unfold delBy
  rw [List.filter_map]
  congr 1
  apply List.filter_congr
  intro x _
  simp [hφ]
theorem map_lookBy {nm' : β → List UInt8} (φ : α → β) (hφ : ∀ x, nm' (φ x) = nm x) (k : List UInt8) (l : List α) : lookBy nm' k (l.map φ) = (lookBy nm k l).map φ := by
  unfold lookBy
  rw [List.find?_map]
  congr 2
  funext x
  simp [hφ]
theorem map_putBy {nm' : β → List UInt8} (φ : α → β) (hφ : ∀ x, nm' (φ x) = nm x) (x : α) (l : List α) : putBy nm' (φ x) (l.map φ) = (putBy nm x l).map φ := by
  unfold putBy
  rw [hφ, map_delBy φ hφ, map_insBy φ hφ]
theorem mem_delBy {k : List UInt8} {y : α} {l : List α} : y ∈ delBy nm k l ↔ y ∈ l ∧ nm y ≠ k := by simp [delBy]
theorem mem_putBy {x y : α} {l : List α} (h : y ∈ putBy nm x l) : y = x ∨ y ∈ l := by
  rcases mem_insBy.1 h with h | h
  · exact .inl h
  · exact .inr (mem_delBy.1 h).1
theorem Rising.del {l : List α} (h : Rising nm l) (k : List UInt8) : Rising nm (delBy nm k l) := h.filter _
theorem Rising.ins {x : α} : ∀ {l : List α}, Rising nm l → (∀ y ∈ l, nm y ≠ nm x) → Rising nm (insBy nm x l)
  | [], _, _ => by simp [insBy, Rising]
  | z :: r, h, hne => by
    obtain ⟨h1, h2⟩ := List.pairwise_cons.1 h
    unfold insBy
    split
    · rename_i hb
      refine List.pairwise_cons.2 ⟨fun y hy => ?_, h⟩
      rcases List.mem_cons.1 hy with rfl | hy
      · exact hb
      · exact WideShapes.bytes_trans _ _ _ hb (h1 y hy)
    · rename_i hb
      refine List.pairwise_cons.2 ⟨fun y hy => ?_, Rising.ins h2 (fun y hy => hne y (by simp [hy]))⟩
      rcases mem_insBy.1 hy with rfl | hy
      · exact bb_of_not hb (hne z (by simp)).symm
      · exact h1 y hy
theorem Rising.put {x : α} {l : List α} (h : Rising nm l) : Rising nm (putBy nm x l) :=
  (h.del _).ins fun y hy => (mem_delBy.1 hy).2
theorem Rising.nodup {l : List α} (h : Rising nm l) : (l.map nm).Nodup := by
  unfold List.Nodup
  rw [List.pairwise_map]
  exact h.imp fun hb => bb_ne hb
theorem lookBy_mem {k : List UInt8} {l : List α} {x : α} (h : lookBy nm k l = some x) : x ∈ l ∧ nm x = k := by
  unfold lookBy at h
  exact ⟨List.mem_of_find?_eq_some h, by simpa using List.find?_some h⟩
theorem lookBy_none {k : List UInt8} {l : List α} : lookBy nm k l = none ↔ ∀ y ∈ l, nm y ≠ k := by simp [lookBy]
theorem delBy_none {k : List UInt8} {l : List α} (h : lookBy nm k l = none) : delBy nm k l = l := by
  unfold delBy
  rw [List.filter_eq_self]
  intro y hy
  simp [lookBy_none.1 h y hy]
/-- where a file is there, the list parts at it -/
theorem split_of_look {k : List UInt8} {x : α} : ∀ {l : List α}, Rising nm l → lookBy nm k l = some x → ∃ p q, l = p ++ x :: q ∧ nm x = k ∧ (∀ y ∈ p, nm y ≠ k) ∧ (∀ y ∈ q, nm y ≠ k)
  | [], _, h => by simp [lookBy] at h
  | z :: r, hr, h => by
    obtain ⟨h1, h2⟩ := List.pairwise_cons.1 hr
    by_cases hz : nm z = k
    · have : z = x := by simpa [lookBy, hz] using h
      subst this
      refine ⟨[], r, rfl, hz, by simp, fun y hy e => ?_⟩
      have := h1 y hy
      rw [hz, e, WideAt.bytes_irrefl] at this
      cases this
    · have h' : lookBy nm k r = some x := by simpa [lookBy, hz] using h
      obtain ⟨p, q, rfl, e, hp, hq⟩ := split_of_look h2 h'
      refine ⟨z :: p, q, rfl, e, fun y hy => ?_, hq⟩
      rcases List.mem_cons.1 hy with rfl | hy
      · exact hz
      · exact hp y hy
theorem delBy_split {k : List UInt8} {x : α} {p q : List α} (hx : nm x = k) (hp : ∀ y ∈ p, nm y ≠ k) (hq : ∀ y ∈ q, nm y ≠ k) : delBy nm k (p ++ x :: q) = p ++ q := by
  unfold delBy
  rw [List.filter_append, List.filter_cons, if_neg (by simp [hx]), List.filter_eq_self.2 (fun y hy => by simp [hp y hy]), List.filter_eq_self.2 (fun y hy => by simp [hq y hy])]
theorem insBy_mid {x : α} : ∀ {p q : List α}, (∀ y ∈ p, bytesBefore (nm y) (nm x) = true) → (∀ y ∈ q, bytesBefore (nm x) (nm y) = true) → insBy nm x (p ++ q) = p ++ x :: q
  | [], [], _, _ => rfl
  | [], y :: r, _, hq => by simp [insBy, hq y (by simp)]
  | z :: p, q, hp, hq => by
    have hb := bb_asymm (hp z (by simp))
    simp only [List.cons_append, insBy, hb, if_false, Bool.false_eq_true]
    rw [insBy_mid (fun y hy => hp y (by simp [hy])) hq]
theorem putBy_split {x x' : α} {p q : List α} (h : Rising nm (p ++ x :: q)) (e : nm x' = nm x) : putBy nm x' (p ++ x :: q) = p ++ x' :: q := by
  obtain ⟨h1, h2, h3⟩ := List.pairwise_append.1 h
  obtain ⟨h4, h5⟩ := List.pairwise_cons.1 h2
  have hp : ∀ y ∈ p, bytesBefore (nm y) (nm x) = true := fun y hy => h3 y hy x (by simp)
  unfold putBy
  rw [delBy_split e.symm (fun y hy => by rw [e]; exact bb_ne (hp y hy)) (fun y hy => by rw [e]; exact (bb_ne (h4 y hy)).symm)]
  exact insBy_mid (fun y hy => by rw [e]; exact hp y hy) (fun y hy => by rw [e]; exact h4 y hy)
theorem length_putBy_old {x x' : α} {l : List α} (h : Rising nm l) (hx : lookBy nm (nm x') l = some x) : (putBy nm x' l).length = l.length := by
  obtain ⟨p, q, rfl, e, _, _⟩ := split_of_look h hx
  rw [putBy_split h e.symm]; simp
theorem length_putBy_new {x' : α} {l : List α} (hx : lookBy nm (nm x') l = none) : (putBy nm x' l).length = l.length + 1 := by
  unfold putBy
  rw [delBy_none hx, length_insBy]
theorem length_delBy_old {k : List UInt8} {x : α} {l : List α} (h : Rising nm l) (hx : lookBy nm k l = some x) : (delBy nm k l).length + 1 = l.length := by
  obtain ⟨p, q, rfl, e, hp, hq⟩ := split_of_look h hx
  rw [delBy_split e hp hq]; simp; omega
theorem look_ins_same {x : α} : ∀ {l : List α}, (∀ y ∈ l, nm y ≠ nm x) → lookBy nm (nm x) (insBy nm x l) = some x
  | [], _ => by simp [insBy, lookBy]
  | z :: r, hne => by
    unfold insBy
    split
    · simp [lookBy]
    · have := look_ins_same (x := x) (l := r) (fun y hy => hne y (by simp [hy]))
      unfold lookBy at this ⊢
      rw [List.find?_cons_of_neg (by simpa using hne z (by simp)), this]
theorem look_put_same {x : α} {l : List α} : lookBy nm (nm x) (putBy nm x l) = some x :=
  look_ins_same fun y hy => (mem_delBy.1 hy).2
theorem look_put_same' {k : List UInt8} {x : α} {l : List α} (h : nm x = k) : lookBy nm k (putBy nm x l) = some x := by
  subst h; exact look_put_same
theorem look_ins_other {k : List UInt8} {x : α} (hk : nm x ≠ k) : ∀ {l : List α}, lookBy nm k (insBy nm x l) = lookBy nm k l
  | [] => by simp [insBy, lookBy, hk]
  | z :: r => by
    unfold insBy
    split
    · simp [lookBy, hk]
    · have := look_ins_other hk (l := r)
      unfold lookBy at this ⊢
      simp only [List.find?_cons]
      split
      · rfl
      · exact this
theorem look_del_same {k : List UInt8} {l : List α} : lookBy nm k (delBy nm k l) = none :=
  lookBy_none.2 fun y hy => (mem_delBy.1 hy).2
theorem look_del_other {k k' : List UInt8} (hk : k' ≠ k) {l : List α} : lookBy nm k' (delBy nm k l) = lookBy nm k' l := by
  unfold lookBy delBy
  rw [List.find?_filter]
  congr 1
  funext y
  by_cases h : nm y = k'
  · simp [h, hk]
  · simp [h]
theorem look_put_other {k : List UInt8} {x : α} (hk : nm x ≠ k) {l : List α} : lookBy nm k (putBy nm x l) = lookBy nm k l := by
  unfold putBy
  rw [look_ins_other hk, look_del_other (fun e => hk e.symm)]
end
end Go.Proofs.Ytdabflkejhoghaa.Hand
