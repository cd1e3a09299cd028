/- The plain law: a disk, its files; frames; a log. -/
import Derived.WideShapes
import Derived.WideAt
open Go
namespace Go.Proofs.YtdabflkejhoghaaGreat.Hand
set_option linter.unusedVariables false

/-- A file: its name, its bytes, how many of them last. -/
structure F where
  name : List UInt8
  b : List UInt8
  lasts : Nat
/-- A disk: its files by rising names, its room, its fuse, is it dead? -/
structure Dk where
  files : List F
  room : Nat
  fuse : Option Nat
  dead : Bool

section
variable {α β : Type} (nm : α → List UInt8)
/-- in its place, among rising names -/
def insBy (x : α) : List α → List α
  | [] => [x]
  | y :: r => if bytesBefore (nm x) (nm y) then x :: y :: r else y :: insBy x r
def delBy (k : List UInt8) (l : List α) : List α := l.filter fun y => !(nm y == k)
def lookBy (k : List UInt8) (l : List α) : Option α := l.find? fun y => nm y == k
def putBy (x : α) (l : List α) : List α := insBy nm x (delBy nm (nm x) l)
def Rising (l : List α) : Prop := l.Pairwise fun x y => bytesBefore (nm x) (nm y) = true
variable {nm}
theorem bb_ne {a b : List UInt8} (h : bytesBefore a b = true) : a ≠ b := fun e => by rw [e, WideAt.bytes_irrefl] at h; cases h
theorem bb_asymm {a b : List UInt8} (h : bytesBefore a b = true) : bytesBefore b a = false := by
  cases hb : bytesBefore b a
  · rfl
  · have := WideShapes.bytes_trans _ _ _ h hb
    rw [WideAt.bytes_irrefl] at this; cases this
theorem bb_of_not {a b : List UInt8} (h : ¬ bytesBefore a b = true) (hne : a ≠ b) : bytesBefore b a = true :=
  (WideAt.bytes_total a b hne).resolve_left h
theorem mem_insBy {x y : α} : ∀ {l : List α}, y ∈ insBy nm x l ↔ y = x ∨ y ∈ l
  | [] => by simp [insBy]
  | z :: r => by
    unfold insBy
    split
    · simp
    · simp only [List.mem_cons, mem_insBy (l := r)]
      constructor
      · rintro (h | h | h) <;> simp [h]
      · rintro (h | h | h) <;> simp [h]
theorem length_insBy (x : α) : ∀ l : List α, (insBy nm x l).length = l.length + 1
  | [] => rfl
  | z :: r => by unfold insBy; split <;> simp [length_insBy x r]
theorem map_insBy {nm' : β → List UInt8} (φ : α → β) (hφ : ∀ x, nm' (φ x) = nm x) (x : α) : ∀ l : List α, insBy nm' (φ x) (l.map φ) = (insBy nm x l).map φ
  | [] => rfl
  | z :: r => by
    simp only [List.map_cons, insBy, hφ]
    split
    · rfl
    · simp [map_insBy φ hφ x r]
theorem map_delBy {nm' : β → List UInt8} (φ : α → β) (hφ : ∀ x, nm' (φ x) = nm x) (k : List UInt8) (l : List α) : delBy nm' k (l.map φ) = (delBy nm k l).map φ := by
  unfold delBy
  rw [List.filter_map]
  congr 1
  apply List.filter_congr
  intro x _
  simp [hφ]
theorem map_lookBy {nm' : β → List UInt8} (φ : α → β) (hφ : ∀ x, nm' (φ x) = nm x) (k : List UInt8) (l : List α) : lookBy nm' k (l.map φ) = (lookBy nm k l).map φ := by
  unfold lookBy
  rw [List.find?_map]
  congr 2
  funext x
  simp [hφ]
theorem map_putBy {nm' : β → List UInt8} (φ : α → β) (hφ : ∀ x, nm' (φ x) = nm x) (x : α) (l : List α) : putBy nm' (φ x) (l.map φ) = (putBy nm x l).map φ := by
  unfold putBy
  rw [hφ, map_delBy φ hφ, map_insBy φ hφ]
theorem mem_delBy {k : List UInt8} {y : α} {l : List α} : y ∈ delBy nm k l ↔ y ∈ l ∧ nm y ≠ k := by simp [delBy]
theorem mem_putBy {x y : α} {l : List α} (h : y ∈ putBy nm x l) : y = x ∨ y ∈ l := by
  rcases mem_insBy.1 h with h | h
  · exact .inl h
  · exact .inr (mem_delBy.1 h).1
theorem Rising.del {l : List α} (h : Rising nm l) (k : List UInt8) : Rising nm (delBy nm k l) := h.filter _
theorem Rising.ins {x : α} : ∀ {l : List α}, Rising nm l → (∀ y ∈ l, nm y ≠ nm x) → Rising nm (insBy nm x l)
  | [], _, _ => by simp [insBy, Rising]
  | z :: r, h, hne => by
    obtain ⟨h1, h2⟩ := List.pairwise_cons.1 h
    unfold insBy
    split
    · rename_i hb
      refine List.pairwise_cons.2 ⟨fun y hy => ?_, h⟩
      rcases List.mem_cons.1 hy with rfl | hy
      · exact hb
      · exact WideShapes.bytes_trans _ _ _ hb (h1 y hy)
    · rename_i hb
      refine List.pairwise_cons.2 ⟨fun y hy => ?_, Rising.ins h2 (fun y hy => hne y (by simp [hy]))⟩
      rcases mem_insBy.1 hy with rfl | hy
      · exact bb_of_not hb (hne z (by simp)).symm
      · exact h1 y hy
theorem Rising.put {x : α} {l : List α} (h : Rising nm l) : Rising nm (putBy nm x l) :=
  (h.del _).ins fun y hy => (mem_delBy.1 hy).2
theorem Rising.nodup {l : List α} (h : Rising nm l) : (l.map nm).Nodup := by
  unfold List.Nodup
  rw [List.pairwise_map]
  exact h.imp fun hb => bb_ne hb
theorem lookBy_mem {k : List UInt8} {l : List α} {x : α} (h : lookBy nm k l = some x) : x ∈ l ∧ nm x = k := by
  unfold lookBy at h
  exact ⟨List.mem_of_find?_eq_some h, by simpa using List.find?_some h⟩
theorem lookBy_none {k : List UInt8} {l : List α} : lookBy nm k l = none ↔ ∀ y ∈ l, nm y ≠ k := by simp [lookBy]
theorem delBy_none {k : List UInt8} {l : List α} (h : lookBy nm k l = none) : delBy nm k l = l := by
  unfold delBy
  rw [List.filter_eq_self]
  intro y hy
  simp [lookBy_none.1 h y hy]
/-- where a file is there, the list parts at it -/
theorem split_of_look {k : List UInt8} {x : α} : ∀ {l : List α}, Rising nm l → lookBy nm k l = some x → ∃ p q, l = p ++ x :: q ∧ nm x = k ∧ (∀ y ∈ p, nm y ≠ k) ∧ (∀ y ∈ q, nm y ≠ k)
  | [], _, h => by simp [lookBy] at h
  | z :: r, hr, h => by
    obtain ⟨h1, h2⟩ := List.pairwise_cons.1 hr
    by_cases hz : nm z = k
    · have : z = x := by simpa [lookBy, hz] using h
      subst this
      refine ⟨[], r, rfl, hz, by simp, fun y hy e => ?_⟩
      have := h1 y hy
      rw [hz, e, WideAt.bytes_irrefl] at this
      cases this
    · have h' : lookBy nm k r = some x := by simpa [lookBy, hz] using h
      obtain ⟨p, q, rfl, e, hp, hq⟩ := split_of_look h2 h'
      refine ⟨z :: p, q, rfl, e, fun y hy => ?_, hq⟩
      rcases List.mem_cons.1 hy with rfl | hy
      · exact hz
      · exact hp y hy
theorem delBy_split {k : List UInt8} {x : α} {p q : List α} (hx : nm x = k) (hp : ∀ y ∈ p, nm y ≠ k) (hq : ∀ y ∈ q, nm y ≠ k) : delBy nm k (p ++ x :: q) = p ++ q := by
  unfold delBy
  rw [List.filter_append, List.filter_cons, if_neg (by simp [hx]), List.filter_eq_self.2 (fun y hy => by simp [hp y hy]), List.filter_eq_self.2 (fun y hy => by simp [hq y hy])]
theorem insBy_mid {x : α} : ∀ {p q : List α}, (∀ y ∈ p, bytesBefore (nm y) (nm x) = true) → (∀ y ∈ q, bytesBefore (nm x) (nm y) = true) → insBy nm x (p ++ q) = p ++ x :: q
  | [], [], _, _ => rfl
  | [], y :: r, _, hq => by simp [insBy, hq y (by simp)]
  | z :: p, q, hp, hq => by
    have hb := bb_asymm (hp z (by simp))
    simp only [List.cons_append, insBy, hb, if_false, Bool.false_eq_true]
    rw [insBy_mid (fun y hy => hp y (by simp [hy])) hq]
theorem putBy_split {x x' : α} {p q : List α} (h : Rising nm (p ++ x :: q)) (e : nm x' = nm x) : putBy nm x' (p ++ x :: q) = p ++ x' :: q := by
  obtain ⟨h1, h2, h3⟩ := List.pairwise_append.1 h
  obtain ⟨h4, h5⟩ := List.pairwise_cons.1 h2
  have hp : ∀ y ∈ p, bytesBefore (nm y) (nm x) = true := fun y hy => h3 y hy x (by simp)
  unfold putBy
  rw [delBy_split e.symm (fun y hy => by rw [e]; exact bb_ne (hp y hy)) (fun y hy => by rw [e]; exact (bb_ne (h4 y hy)).symm)]
  exact insBy_mid (fun y hy => by rw [e]; exact hp y hy) (fun y hy => by rw [e]; exact h4 y hy)
theorem length_putBy_old {x x' : α} {l : List α} (h : Rising nm l) (hx : lookBy nm (nm x') l = some x) : (putBy nm x' l).length = l.length := by
  obtain ⟨p, q, rfl, e, _, _⟩ := split_of_look h hx
  rw [putBy_split h e.symm]; simp
theorem length_putBy_new {x' : α} {l : List α} (hx : lookBy nm (nm x') l = none) : (putBy nm x' l).length = l.length + 1 := by
  unfold putBy
  rw [delBy_none hx, length_insBy]
theorem length_delBy_old {k : List UInt8} {x : α} {l : List α} (h : Rising nm l) (hx : lookBy nm k l = some x) : (delBy nm k l).length + 1 = l.length := by
  obtain ⟨p, q, rfl, e, hp, hq⟩ := split_of_look h hx
  rw [delBy_split e hp hq]; simp; omega
theorem look_ins_same {x : α} : ∀ {l : List α}, (∀ y ∈ l, nm y ≠ nm x) → lookBy nm (nm x) (insBy nm x l) = some x
  | [], _ => by simp [insBy, lookBy]
  | z :: r, hne => by
    unfold insBy
    split
    · simp [lookBy]
    · have := look_ins_same (x := x) (l := r) (fun y hy => hne y (by simp [hy]))
      unfold lookBy at this ⊢
      rw [List.find?_cons_of_neg (by simpa using hne z (by simp)), this]
theorem look_put_same {x : α} {l : List α} : lookBy nm (nm x) (putBy nm x l) = some x :=
  look_ins_same fun y hy => (mem_delBy.1 hy).2
theorem look_put_same' {k : List UInt8} {x : α} {l : List α} (h : nm x = k) : lookBy nm k (putBy nm x l) = some x := by
  subst h; exact look_put_same
theorem look_ins_other {k : List UInt8} {x : α} (hk : nm x ≠ k) : ∀ {l : List α}, lookBy nm k (insBy nm x l) = lookBy nm k l
  | [] => by simp [insBy, lookBy, hk]
  | z :: r => by
    unfold insBy
    split
    · simp [lookBy, hk]
    · have := look_ins_other hk (l := r)
      unfold lookBy at this ⊢
      simp only [List.find?_cons]
      split
      · rfl
      · exact this
theorem look_del_same {k : List UInt8} {l : List α} : lookBy nm k (delBy nm k l) = none :=
  lookBy_none.2 fun y hy => (mem_delBy.1 hy).2
theorem look_del_other {k k' : List UInt8} (hk : k' ≠ k) {l : List α} : lookBy nm k' (delBy nm k l) = lookBy nm k' l := by
  unfold lookBy delBy
  rw [List.find?_filter]
  congr 1
  funext y
  by_cases h : nm y = k'
  · simp [h, hk]
  · simp [h]
theorem look_put_other {k : List UInt8} {x : α} (hk : nm x ≠ k) {l : List α} : lookBy nm k (putBy nm x l) = lookBy nm k l := by
  unfold putBy
  rw [look_ins_other hk, look_del_other (fun e => hk e.symm)]
end
end Go.Proofs.YtdabflkejhoghaaGreat.Hand
open Go
namespace Go.Proofs.YtdabflkejhoghaaGreat.Hand
set_option linter.unusedVariables false
def used (l : List F) : Nat := (l.map fun f => f.b.length).sum
theorem used_cons (f : F) (l : List F) : used (f :: l) = f.b.length + used l := by simp [used]
theorem used_append (l l' : List F) : used (l ++ l') = used l + used l' := by simp [used]
theorem used_ins (x : F) : ∀ l : List F, used (insBy F.name x l) = x.b.length + used l
  | [] => by simp [insBy, used]
  | y :: r => by
    unfold insBy
    split
    · simp [used]
    · rw [used_cons, used_ins x r, used_cons]; omega
theorem used_del_old {k : List UInt8} {x : F} {l : List F} (h : Rising F.name l) (hx : lookBy F.name k l = some x) : used (delBy F.name k l) + x.b.length = used l := by
  obtain ⟨p, q, rfl, e, hp, hq⟩ := split_of_look h hx
  rw [delBy_split e hp hq, used_append, used_append, used_cons]; omega
theorem used_del_le (k : List UInt8) : ∀ l : List F, used (delBy F.name k l) ≤ used l
  | [] => by simp [delBy, used]
  | y :: r => by
    have := used_del_le k r
    unfold delBy at this ⊢
    rw [List.filter_cons, used_cons]
    split
    · rw [used_cons]; omega
    · omega
theorem used_put (x : F) (l : List F) : used (putBy F.name x l) = x.b.length + used (delBy F.name x.name l) := used_ins _ _
theorem used_mem {f : F} : ∀ {l : List F}, f ∈ l → f.b.length ≤ used l
  | y :: r, h => by
    rw [used_cons]
    rcases List.mem_cons.1 h with rfl | h
    · omega
    · have := used_mem h; omega

def named (nm : List UInt8) : Bool := decide (1 ≤ nm.length) && decide (nm.length ≤ 20)
def Dk.look (d : Dk) (nm : List UInt8) : Option F := lookBy F.name nm d.files
def Dk.there (d : Dk) (nm : List UInt8) : Bool := (d.look nm).isSome
def Dk.step (d : Dk) : Dk × Bool :=
  if d.dead = true ∨ d.fuse = some 0 then (⟨d.files, d.room, d.fuse, true⟩, false) else (⟨d.files, d.room, d.fuse.map (· - 1), false⟩, true)
def Dk.refuses (d : Dk) (nm : List UInt8) (m : Nat) : Bool :=
  d.dead || (!named nm || (decide (d.room < used d.files + m) || (!d.there nm && decide (8 ≤ d.files.length))))
def Dk.burn (d : Dk) (m : Nat) : Nat := match d.fuse with | none => m | some k => min k m
theorem Dk.burn_le (d : Dk) (m : Nat) : d.burn m ≤ m := by unfold Dk.burn; split <;> omega
def Dk.old (d : Dk) (nm : List UInt8) : F := (d.look nm).getD ⟨nm, [], 0⟩
def Dk.appended (d : Dk) (nm b : List UInt8) : Dk :=
  ⟨putBy F.name ⟨nm, (d.old nm).b ++ b.take (d.burn b.length), (d.old nm).lasts⟩ d.files, d.room, d.fuse.map (· - d.burn b.length), decide (d.burn b.length < b.length)⟩
def Dk.append (d : Dk) (nm b : List UInt8) : Dk × Bool :=
  if d.refuses nm b.length = true then (d, false) else (d.appended nm b, decide (d.burn b.length = b.length))
def Dk.synced (d : Dk) (f : F) : Dk := ⟨putBy F.name ⟨f.name, f.b, f.b.length⟩ d.files, d.room, d.fuse, d.dead⟩
def Dk.sync (d : Dk) (nm : List UInt8) : Dk × Bool :=
  match d.look nm with
  | none => (d, false)
  | some f => if d.step.2 = true then (d.step.1.synced f, true) else (d.step.1, false)
def Dk.moved (d : Dk) (f : F) (to : List UInt8) : Dk := ⟨putBy F.name ⟨to, f.b, f.lasts⟩ (delBy F.name f.name d.files), d.room, d.fuse, d.dead⟩
def Dk.rename (d : Dk) (fr to : List UInt8) : Dk × Bool :=
  match d.look fr with
  | none => (d, false)
  | some f => if named to = false then (d, false) else if d.step.2 = true then (d.step.1.moved f to, true) else (d.step.1, false)
def Dk.dropped (d : Dk) (nm : List UInt8) : Dk := ⟨delBy F.name nm d.files, d.room, d.fuse, d.dead⟩
def Dk.drop (d : Dk) (nm : List UInt8) : Dk × Bool :=
  match d.look nm with
  | none => (d, false)
  | some _ => if d.step.2 = true then (d.step.1.dropped nm, true) else (d.step.1, false)
def Dk.setFuse (d : Dk) (n : Int) : Dk := if d.dead = true then d else ⟨d.files, d.room, if 0 ≤ n then some n.toNat else none, false⟩
def crashL : Nat → List F → List F
  | _, [] => []
  | k, f :: r => ⟨f.name, f.b.take (f.lasts + min (f.b.length - f.lasts) k), f.lasts + min (f.b.length - f.lasts) k⟩ :: crashL (k - min (f.b.length - f.lasts) k) r
def Dk.crash (d : Dk) (keep : Int) : Dk := ⟨crashL keep.toNat d.files, d.room, none, false⟩
def Dk.new (room : Int) : Dk := ⟨[], (max 0 (min room 1048576)).toNat, none, false⟩
/-- what lasts of a file -/
def F.last (f : F) : List UInt8 := f.b.take f.lasts

structure Dk.Ok (d : Dk) : Prop where
  rising : Rising F.name d.files
  names : ∀ f ∈ d.files, named f.name = true
  lasts : ∀ f ∈ d.files, f.lasts ≤ f.b.length
  used : used d.files ≤ d.room
  room : d.room ≤ 1048576
  few : d.files.length ≤ 8

theorem named_le {nm : List UInt8} (h : named nm = true) : 1 ≤ nm.length ∧ nm.length ≤ 20 := by simpa [named] using h

theorem Dk.Ok.step {d : Dk} (h : d.Ok) : d.step.1.Ok := by
  unfold Dk.step
  split <;> exact ⟨h.rising, h.names, h.lasts, h.used, h.room, h.few⟩
theorem Dk.step_files (d : Dk) : d.step.1.files = d.files := by unfold Dk.step; split <;> rfl
theorem Dk.step_room (d : Dk) : d.step.1.room = d.room := by unfold Dk.step; split <;> rfl
theorem Dk.look_mem {d : Dk} {nm : List UInt8} {f : F} (h : d.look nm = some f) : f ∈ d.files ∧ f.name = nm := lookBy_mem h

theorem Dk.Ok.append {d : Dk} (h : d.Ok) (nm b : List UInt8) : (d.append nm b).1.Ok := by
  unfold Dk.append
  split
  · exact h
  · rename_i hr
    have hr' : d.dead = false ∧ named nm = true ∧ ¬ d.room < Hand.used d.files + b.length ∧ (d.there nm = false → ¬ 8 ≤ d.files.length) := by
      simpa [Dk.refuses, Decidable.imp_iff_not_or] using hr
    obtain ⟨_, hn, hu, hf⟩ := hr'
    have hb := d.burn_le b.length
    have hold : (d.old nm).lasts ≤ (d.old nm).b.length := by
      unfold Dk.old
      cases hl : d.look nm with
      | none => simp
      | some f => exact h.lasts f (Dk.look_mem hl).1
    refine ⟨h.rising.put, ?_, ?_, ?_, h.room, ?_⟩
    · intro f hfm
      rcases mem_putBy hfm with rfl | hm
      · exact hn
      · exact h.names f hm
    · intro f hfm
      rcases mem_putBy hfm with rfl | hm
      · show (d.old nm).lasts ≤ ((d.old nm).b ++ b.take (d.burn b.length)).length
        simp; omega
      · exact h.lasts f hm
    · show Hand.used (putBy F.name ⟨nm, (d.old nm).b ++ b.take (d.burn b.length), (d.old nm).lasts⟩ d.files) ≤ d.room
      rw [used_put]
      have : ((d.old nm).b ++ b.take (d.burn b.length)).length ≤ (d.old nm).b.length + b.length := by simp; omega
      show ((d.old nm).b ++ b.take (d.burn b.length)).length + Hand.used (delBy F.name nm d.files) ≤ d.room
      have h2 : (d.old nm).b.length + Hand.used (delBy F.name nm d.files) ≤ Hand.used d.files := by
        unfold Dk.old
        cases hl : d.look nm with
        | none => simpa using used_del_le nm d.files
        | some f => have := used_del_old h.rising hl; simp; omega
      omega
    · show (putBy F.name ⟨nm, (d.old nm).b ++ b.take (d.burn b.length), (d.old nm).lasts⟩ d.files).length ≤ 8
      cases hl : d.look nm with
      | none =>
        rw [length_putBy_new (nm := F.name) (x' := ⟨nm, _, _⟩) hl]
        have := hf (by simp [Dk.there, hl])
        omega
      | some f =>
        rw [length_putBy_old (nm := F.name) (x' := ⟨nm, _, _⟩) h.rising hl]
        exact h.few

theorem Dk.Ok.synced {d : Dk} (h : d.Ok) {f : F} {nm : List UInt8} (hf : d.look nm = some f) : (d.synced f).Ok := by
  obtain ⟨hm, rfl⟩ := Dk.look_mem hf
  have hu := used_del_old h.rising hf
  refine ⟨h.rising.put, ?_, ?_, ?_, h.room, ?_⟩
  · intro g hg
    rcases mem_putBy hg with rfl | hg
    · exact h.names f hm
    · exact h.names g hg
  · intro g hg
    rcases mem_putBy hg with rfl | hg
    · exact Nat.le_refl _
    · exact h.lasts g hg
  · show Hand.used (putBy F.name ⟨f.name, f.b, f.b.length⟩ d.files) ≤ d.room
    rw [used_put]
    have := h.used
    show f.b.length + Hand.used (delBy F.name f.name d.files) ≤ d.room
    omega
  · show (putBy F.name ⟨f.name, f.b, f.b.length⟩ d.files).length ≤ 8
    rw [length_putBy_old (nm := F.name) (x' := ⟨f.name, f.b, f.b.length⟩) h.rising hf]
    exact h.few

theorem Dk.look_step (d : Dk) (nm : List UInt8) : d.step.1.look nm = d.look nm := by unfold Dk.look; rw [d.step_files]

theorem Dk.Ok.sync {d : Dk} (h : d.Ok) (nm : List UInt8) : (d.sync nm).1.Ok := by
  unfold Dk.sync
  split
  · exact h
  · rename_i f hf
    split
    · exact h.step.synced (nm := nm) (by rw [d.look_step, hf])
    · exact h.step

theorem Dk.Ok.dropped {d : Dk} (h : d.Ok) (nm : List UInt8) : (d.dropped nm).Ok :=
  ⟨h.rising.del _, fun f hf => h.names f (mem_delBy.1 hf).1, fun f hf => h.lasts f (mem_delBy.1 hf).1, Nat.le_trans (used_del_le _ _) h.used, h.room, Nat.le_trans (List.length_filter_le _ _) h.few⟩

theorem Dk.Ok.drop {d : Dk} (h : d.Ok) (nm : List UInt8) : (d.drop nm).1.Ok := by
  unfold Dk.drop
  split
  · exact h
  · split
    · exact h.step.dropped nm
    · exact h.step

theorem Dk.Ok.moved {d : Dk} (h : d.Ok) {f : F} {fr to : List UInt8} (hf : d.look fr = some f) (hto : named to = true) : (d.moved f to).Ok := by
  obtain ⟨hm, rfl⟩ := Dk.look_mem hf
  have hu := used_del_old h.rising hf
  have hd := h.dropped f.name
  have hl : (delBy F.name f.name d.files).length + 1 = d.files.length := length_delBy_old h.rising hf
  refine ⟨Rising.put (h.rising.del _), ?_, ?_, ?_, h.room, ?_⟩
  · intro g hg
    rcases mem_putBy hg with rfl | hg
    · exact hto
    · exact hd.names g hg
  · intro g hg
    rcases mem_putBy hg with rfl | hg
    · exact h.lasts f hm
    · exact hd.lasts g hg
  · show Hand.used (putBy F.name ⟨to, f.b, f.lasts⟩ (delBy F.name f.name d.files)) ≤ d.room
    rw [used_put]
    have := h.used
    have h3 := used_del_le to (delBy F.name f.name d.files)
    show f.b.length + Hand.used (delBy F.name to (delBy F.name f.name d.files)) ≤ d.room
    omega
  · show (putBy F.name ⟨to, f.b, f.lasts⟩ (delBy F.name f.name d.files)).length ≤ 8
    have := h.few
    cases hx : lookBy F.name to (delBy F.name f.name d.files) with
    | none => rw [length_putBy_new (nm := F.name) (x' := ⟨to, _, _⟩) hx]; omega
    | some x => rw [length_putBy_old (nm := F.name) (x' := ⟨to, _, _⟩) (h.rising.del _) hx]; omega

theorem Dk.Ok.rename {d : Dk} (h : d.Ok) (fr to : List UInt8) : (d.rename fr to).1.Ok := by
  unfold Dk.rename
  split
  · exact h
  · rename_i f hf
    split
    · exact h
    · rename_i hn
      split
      · exact h.step.moved (fr := fr) (by rw [d.look_step, hf]) (by simpa using hn)
      · exact h.step

theorem Dk.Ok.setFuse {d : Dk} (h : d.Ok) (n : Int) : (d.setFuse n).Ok := by
  unfold Dk.setFuse
  split
  · exact h
  · exact ⟨h.rising, h.names, h.lasts, h.used, h.room, h.few⟩

theorem crashL_names : ∀ (k : Nat) (l : List F), (crashL k l).map F.name = l.map F.name
  | _, [] => rfl
  | k, f :: r => by simp [crashL, crashL_names _ r]
theorem crashL_length (k : Nat) (l : List F) : (crashL k l).length = l.length := by
  have := congrArg List.length (crashL_names k l); simpa using this
theorem crashL_used : ∀ (k : Nat) (l : List F), used (crashL k l) ≤ used l
  | _, [] => Nat.le_refl _
  | k, f :: r => by
    have := crashL_used (k - min (f.b.length - f.lasts) k) r
    simp only [crashL, used_cons, List.length_take]
    omega
theorem crashL_lasts : ∀ (k : Nat) (l : List F), (∀ f ∈ l, f.lasts ≤ f.b.length) → ∀ f ∈ crashL k l, f.lasts = f.b.length
  | _, [], _ => by simp [crashL]
  | k, g :: r, h => by
    intro f hf
    simp only [crashL, List.mem_cons] at hf
    rcases hf with rfl | hf
    · have := h g (by simp)
      simp only [List.length_take]
      omega
    · exact crashL_lasts _ r (fun f hf => h f (by simp [hf])) f hf
theorem rising_names {l l' : List F} (h : l'.map F.name = l.map F.name) (hr : Rising F.name l) : Rising F.name l' := by
  have : (l.map F.name).Pairwise fun a b => bytesBefore a b = true := by rw [List.pairwise_map]; exact hr
  rw [← h, List.pairwise_map] at this
  exact this
theorem Dk.Ok.crash {d : Dk} (h : d.Ok) (keep : Int) : (d.crash keep).Ok := by
  have hn := crashL_names keep.toNat d.files
  refine ⟨rising_names hn h.rising, ?_, fun f hf => Nat.le_of_eq (crashL_lasts _ _ h.lasts f hf), Nat.le_trans (crashL_used _ _) h.used, h.room, ?_⟩
  · intro f hf
    have : f.name ∈ d.files.map F.name := by rw [← hn]; exact List.mem_map_of_mem hf
    obtain ⟨g, hg, e⟩ := List.mem_map.1 this
    rw [← e]; exact h.names g hg
  · show (crashL keep.toNat d.files).length ≤ 8
    rw [crashL_length]; exact h.few
theorem Dk.Ok.new (room : Int) : (Dk.new room).Ok := by
  refine ⟨List.Pairwise.nil, by simp [Dk.new], by simp [Dk.new], by simp [Dk.new, Hand.used], ?_, by simp [Dk.new]⟩
  show (max 0 (min room 1048576)).toNat ≤ 1048576
  omega
end Go.Proofs.YtdabflkejhoghaaGreat.Hand
open Go
namespace Go.Proofs.YtdabflkejhoghaaGreat.Hand
set_option linter.unusedVariables false
/-- the last k bytes of n, the greatest first -/
def putB (n : Nat) : Nat → List UInt8
  | 0 => []
  | k + 1 => UInt8.ofNat (n / 256 ^ k) :: putB n k
theorem putB_length (n k : Nat) : (putB n k).length = k := by
  induction k with
  | zero => rfl
  | succ k ih => simp [putB, ih]
/-- the number that bytes tell, behind a -/
def getN : List UInt8 → Nat → Nat
  | [], a => a
  | c :: l, a => getN l (a * 256 + c.toNat)
theorem getN_put (n a : Nat) : ∀ k, getN (putB n k) a = a * 256 ^ k + n % 256 ^ k := by
  intro k
  induction k generalizing a with
  | zero => simp [putB, getN]; omega
  | succ k ih =>
    have e : (UInt8.ofNat (n / 256 ^ k)).toNat = n / 256 ^ k % 256 := by simp
    simp only [putB, getN]
    rw [ih, e, Nat.pow_succ, Nat.mod_mul]
    rw [Nat.add_mul, Nat.mul_assoc a 256, Nat.mul_comm 256 (256 ^ k), Nat.mul_comm (n / 256 ^ k % 256)]
    omega
theorem getN_put0 {n k : Nat} (h : n < 256 ^ k) : getN (putB n k) 0 = n := by
  rw [getN_put, Nat.zero_mul, Nat.zero_add, Nat.mod_eq_of_lt h]
theorem getN_lt : ∀ (l : List UInt8) (a : Nat), getN l a < (a + 1) * 256 ^ l.length
  | [], a => by simp [getN]
  | c :: l, a => by
    have h := getN_lt l (a * 256 + c.toNat)
    have hc := UInt8.toNat_lt c
    simp only [getN, List.length_cons]
    have h2 : (a * 256 + c.toNat + 1) * 256 ^ l.length ≤ ((a + 1) * 256) * 256 ^ l.length := Nat.mul_le_mul_right _ (by omega)
    have h3 : ((a + 1) * 256) * 256 ^ l.length = (a + 1) * 256 ^ (l.length + 1) := by rw [Nat.mul_assoc, Nat.pow_succ, Nat.mul_comm 256]
    omega
theorem getN_acc : ∀ (l : List UInt8) (a : Nat), getN l a = a * 256 ^ l.length + getN l 0
  | [], a => by simp [getN]
  | c :: l, a => by
    simp only [getN, List.length_cons]
    rw [getN_acc l (a * 256 + c.toNat), getN_acc l (0 * 256 + c.toNat), Nat.zero_mul, Nat.zero_add, Nat.pow_succ, Nat.add_mul, Nat.mul_assoc, Nat.mul_comm 256]
    omega
theorem putB_mod (m n : Nat) : ∀ k, m % 256 ^ k = n % 256 ^ k → putB m k = putB n k
  | 0, _ => rfl
  | k + 1, h => by
    rw [Nat.pow_succ, Nat.mod_mul, Nat.mod_mul] at h
    have hp : 0 < 256 ^ k := Nat.pow_pos (by decide)
    have a1 := Nat.mod_lt m hp
    have a2 := Nat.mod_lt n hp
    have e1 : m % 256 ^ k = n % 256 ^ k := by
      have := congrArg (· % 256 ^ k) h
      simpa [Nat.add_mul_mod_self_left, Nat.mod_mod] using this
    have e2 : m / 256 ^ k % 256 = n / 256 ^ k % 256 := by
      rw [e1] at h
      exact Nat.eq_of_mul_eq_mul_left hp (Nat.add_left_cancel h)
    simp only [putB]
    rw [putB_mod m n k e1]
    congr 1
    apply UInt8.toNat_inj.1
    simpa using e2
theorem putB_getN : ∀ (l : List UInt8), putB (getN l 0) l.length = l
  | [] => rfl
  | c :: l => by
    have h := getN_lt l 0
    rw [Nat.zero_add, Nat.one_mul] at h
    have hp : 0 < 256 ^ l.length := Nat.pow_pos (by decide)
    simp only [getN, List.length_cons, putB, Nat.zero_mul, Nat.zero_add]
    rw [getN_acc l c.toNat]
    have e1 : (c.toNat * 256 ^ l.length + getN l 0) / 256 ^ l.length = c.toNat := by
      rw [Nat.add_comm, Nat.add_mul_div_right _ _ hp, Nat.div_eq_of_lt h, Nat.zero_add]
    rw [e1, UInt8.ofNat_toNat, putB_mod _ (getN l 0) l.length (by rw [Nat.add_comm, Nat.add_mul_mod_self_right]), putB_getN l]
theorem putB_getN' {l : List UInt8} {k : Nat} (h : l.length = k) : putB (getN l 0) k = l := by subst h; exact putB_getN l
theorem getN_lt' {l : List UInt8} {k : Nat} (h : l.length = k) : getN l 0 < 256 ^ k := by
  subst h; have := getN_lt l 0; simpa using this

/-- a turn of the sum -/
def crc1 (n : Nat) : Nat := n / 2 ^^^ 3988292384 * (n % 2)
def crcIt : Nat → Nat → Nat
  | 0, n => n
  | k + 1, n => crcIt k (crc1 n)
theorem crcIt_succ : ∀ (k n : Nat), crcIt (k + 1) n = crc1 (crcIt k n)
  | 0, n => rfl
  | k + 1, n => crcIt_succ k (crc1 n)
def crcB (n : Nat) (c : UInt8) : Nat := crcIt 8 (n ^^^ c.toNat)
def crcL (n : Nat) (l : List UInt8) : Nat := l.foldl crcB n
theorem crc1_lt {n : Nat} (h : n < 4294967296) : crc1 n < 4294967296 := by
  unfold crc1
  have h2 : 3988292384 * (n % 2) < 2 ^ 32 := by have := Nat.mod_lt n (show 0 < 2 by omega); omega
  exact Nat.xor_lt_two_pow (n := 32) (by omega) h2
theorem crcIt_lt : ∀ (k : Nat) {n : Nat}, n < 4294967296 → crcIt k n < 4294967296
  | 0, _, h => h
  | k + 1, _, h => crcIt_lt k (crc1_lt h)
theorem crcB_lt {n : Nat} (c : UInt8) (h : n < 4294967296) : crcB n c < 4294967296 := by
  have hc := UInt8.toNat_lt c
  exact crcIt_lt 8 (Nat.xor_lt_two_pow (n := 32) h (by omega))
theorem crcL_lt : ∀ (l : List UInt8) {n : Nat}, n < 4294967296 → crcL n l < 4294967296
  | [], _, h => h
  | c :: l, _, h => crcL_lt l (crcB_lt c h)
theorem crcL_snoc (n : Nat) (l : List UInt8) (c : UInt8) : crcL n (l ++ [c]) = crcB (crcL n l) c := by simp [crcL]
theorem crcL_app (n : Nat) (l m : List UInt8) : crcL n (l ++ m) = crcL (crcL n l) m := by simp [crcL]
/-- the sum of bytes -/
def sumN (l : List UInt8) : Nat := 4294967295 ^^^ crcL 4294967295 l
theorem sumN_lt (l : List UInt8) : sumN l < 4294967296 := Nat.xor_lt_two_pow (n := 32) (by decide) (crcL_lt l (by decide))

/-- a frame's front: its length, its number -/
def frontB (seq : Nat) (b : List UInt8) : List UInt8 := putB b.length 4 ++ putB seq 8
def frameB (seq : Nat) (b : List UInt8) : List UInt8 := frontB seq b ++ (putB (sumN (frontB seq b ++ b)) 4 ++ b)
theorem frontB_length (seq : Nat) (b : List UInt8) : (frontB seq b).length = 12 := by simp [frontB, putB_length]
theorem frameB_length (seq : Nat) (b : List UInt8) : (frameB seq b).length = 16 + b.length := by simp [frameB, frontB_length, putB_length]; omega
/-- the frame that bytes begin with: its number, its bytes -/
def nextB (b : List UInt8) : Option (Nat × List UInt8) :=
  if b.length < 16 then none
  else if 65536 < getN (b.take 4) 0 then none
  else if b.length - 16 < getN (b.take 4) 0 then none
  else if sumN (b.take 12 ++ (b.drop 16).take (getN (b.take 4) 0)) = getN ((b.take 16).drop 12) 0 then some (getN ((b.take 12).drop 4) 0, (b.drop 16).take (getN (b.take 4) 0))
  else none
theorem take_of_app {l r m : List UInt8} {k : Nat} (h : l ++ r = m) (hk : l.length = k) : m.take k = l := by subst h hk; simp
theorem drop_of_app {l r m : List UInt8} {k : Nat} (h : l ++ r = m) (hk : l.length = k) : m.drop k = r := by subst h hk; simp
theorem nextB_frame (seq : Nat) (b r : List UInt8) (hs : seq < 18446744073709551616) (hb : b.length ≤ 65536) : nextB (frameB seq b ++ r) = some (seq, b) := by
  obtain ⟨m, hm⟩ : ∃ m, m = frameB seq b ++ r := ⟨_, rfl⟩
  have hl : m.length = 16 + b.length + r.length := by rw [hm, List.length_append, frameB_length]
  obtain ⟨s, hsum⟩ : ∃ s, s = sumN (frontB seq b ++ b) := ⟨_, rfl⟩
  have hs4 : s < 256 ^ 4 := by rw [hsum]; exact sumN_lt _
  have e4 : m.take 4 = putB b.length 4 := take_of_app (r := putB seq 8 ++ (putB s 4 ++ b) ++ r) (by rw [hm, hsum]; simp [frameB, frontB]) (putB_length _ _)
  have e12 : m.take 12 = putB b.length 4 ++ putB seq 8 := take_of_app (r := (putB s 4 ++ b) ++ r) (by rw [hm, hsum]; simp [frameB, frontB]) (by simp [putB_length])
  have e16 : m.take 16 = (putB b.length 4 ++ putB seq 8) ++ putB s 4 := take_of_app (r := b ++ r) (by rw [hm, hsum]; simp [frameB, frontB]) (by simp [putB_length])
  have d16 : m.drop 16 = b ++ r := drop_of_app (l := (putB b.length 4 ++ putB seq 8) ++ putB s 4) (by rw [hm, hsum]; simp [frameB, frontB]) (by simp [putB_length])
  have hn : getN (m.take 4) 0 = b.length := by rw [e4]; exact getN_put0 (by omega)
  have hq : getN ((m.take 12).drop 4) 0 = seq := by rw [e12, List.drop_left' (putB_length _ _)]; exact getN_put0 (by omega)
  have hz : getN ((m.take 16).drop 12) 0 = s := by rw [e16, List.drop_left' (by simp [putB_length])]; exact getN_put0 hs4
  have hx : (m.drop 16).take b.length = b := by rw [d16]; simp
  rw [← hm]
  unfold nextB
  rw [hn, hq, hz, hx, e12, if_neg (by omega), if_neg (by omega), if_neg (by omega), if_pos (by rw [hsum]; rfl)]
theorem nextB_short (seq : Nat) (b r : List UInt8) (hb : b.length ≤ 65536) (h : r <+: frameB seq b) (hl : r.length < 16 + b.length) : nextB r = none := by
  unfold nextB
  by_cases h16 : r.length < 16
  · rw [if_pos h16]
  · obtain ⟨t, ht⟩ := h
    have e4 : r.take 4 = putB b.length 4 := by
      have : (frameB seq b).take 4 = putB b.length 4 := take_of_app (r := putB seq 8 ++ (putB (sumN (frontB seq b ++ b)) 4 ++ b)) (by simp [frameB, frontB]) (putB_length _ _)
      rw [← this, ← ht, List.take_append_of_le_length (by omega)]
    have hn : getN (r.take 4) 0 = b.length := by rw [e4]; exact getN_put0 (by omega)
    rw [hn, if_neg h16, if_neg (by omega), if_pos (by omega)]
theorem nextB_inv {b x : List UInt8} {s : Nat} (h : nextB b = some (s, x)) : x.length ≤ 65536 ∧ s < 18446744073709551616 ∧ 16 + x.length ≤ b.length ∧ b.take (16 + x.length) = frameB s x := by
  unfold nextB at h
  by_cases h16 : b.length < 16
  · rw [if_pos h16] at h; cases h
  rw [if_neg h16] at h
  obtain ⟨n, hn⟩ : ∃ n, n = getN (b.take 4) 0 := ⟨_, rfl⟩
  rw [← hn] at h
  by_cases h1 : 65536 < n
  · rw [if_pos h1] at h; cases h
  rw [if_neg h1] at h
  by_cases h2 : b.length - 16 < n
  · rw [if_pos h2] at h; cases h
  rw [if_neg h2] at h
  by_cases h3 : sumN (b.take 12 ++ (b.drop 16).take n) = getN ((b.take 16).drop 12) 0
  case neg => rw [if_neg h3] at h; cases h
  rw [if_pos h3] at h
  injection h with h
  injection h with hs hx
  have hxl : x.length = n := by rw [← hx]; simp; omega
  have hsl : ((b.take 12).drop 4).length = 8 := by simp; omega
  have e1 : putB x.length 4 = b.take 4 := by rw [hxl, hn]; exact putB_getN' (by simp; omega)
  have e2 : putB s 8 = (b.take 12).drop 4 := by rw [← hs]; exact putB_getN' hsl
  have e12 : frontB s x = b.take 12 := by
    unfold frontB; rw [e1, e2]
    have : b.take 4 = (b.take 12).take 4 := by rw [List.take_take]; simp
    rw [this, List.take_append_drop]
  have e3 : putB (sumN (frontB s x ++ x)) 4 = (b.take 16).drop 12 := by
    rw [e12, ← hx, h3]; exact putB_getN' (by simp; omega)
  refine ⟨by omega, by rw [← hs]; exact getN_lt' hsl, by omega, ?_⟩
  unfold frameB
  rw [e3, e12, ← List.append_assoc]
  have e16 : b.take 12 ++ (b.take 16).drop 12 = b.take 16 := by
    have : b.take 12 = (b.take 16).take 12 := by rw [List.take_take]; simp
    rw [this, List.take_append_drop]
  rw [e16, List.take_add, hxl, hx]
theorem nextB_len {b x : List UInt8} {s : Nat} (h : nextB b = some (s, x)) : (b.drop (16 + x.length)).length < b.length := by
  have := (nextB_inv h).2.2.1; simp; omega
theorem nextB_split {b x : List UInt8} {s : Nat} (h : nextB b = some (s, x)) : b = frameB s x ++ b.drop (16 + x.length) := by
  rw [← (nextB_inv h).2.2.2, List.take_append_drop]
/-- frames of rising numbers, one behind the other -/
def allB (b : List UInt8) (seq : Nat) : List (List UInt8) × Nat :=
  match h : nextB b with
  | some (s, x) => if s = seq then (x :: (allB (b.drop (16 + x.length)) ((seq + 1) % 18446744073709551616)).1, 16 + x.length + (allB (b.drop (16 + x.length)) ((seq + 1) % 18446744073709551616)).2) else ([], 0)
  | none => ([], 0)
termination_by b.length
decreasing_by all_goals exact nextB_len h
theorem allB_none {b : List UInt8} {seq : Nat} (h : nextB b = none) : allB b seq = ([], 0) := by
  rw [allB]; split
  · rename_i h'; rw [h] at h'; cases h'
  · rfl
theorem allB_other {b x : List UInt8} {s seq : Nat} (h : nextB b = some (s, x)) (hs : s ≠ seq) : allB b seq = ([], 0) := by
  rw [allB]; split
  · rename_i h'; rw [h] at h'; injection h' with h'; injection h' with h1 h2; subst h1 h2; rw [if_neg hs]
  · rfl
theorem allB_some {b x : List UInt8} {s : Nat} (h : nextB b = some (s, x)) : allB b s = (x :: (allB (b.drop (16 + x.length)) ((s + 1) % 18446744073709551616)).1, 16 + x.length + (allB (b.drop (16 + x.length)) ((s + 1) % 18446744073709551616)).2) := by
  rw [allB]; split
  · rename_i h'; rw [h] at h'; injection h' with h'; injection h' with h1 h2; subst h1 h2; rw [if_pos rfl]
  · rename_i h'; rw [h] at h'; cases h'
/-- what lies behind frames up to a number -/
def behindB (b : List UInt8) (most : Nat) : List UInt8 :=
  match h : nextB b with
  | some (s, x) => if s ≤ most then behindB (b.drop (16 + x.length)) most else b
  | none => b
termination_by b.length
decreasing_by exact nextB_len h
theorem behindB_none {b : List UInt8} {m : Nat} (h : nextB b = none) : behindB b m = b := by
  rw [behindB]; split
  · rename_i h'; rw [h] at h'; cases h'
  · rfl
theorem behindB_other {b x : List UInt8} {s m : Nat} (h : nextB b = some (s, x)) (hs : ¬ s ≤ m) : behindB b m = b := by
  rw [behindB]; split
  · rename_i h'; rw [h] at h'; injection h' with h'; injection h' with h1 h2; subst h1 h2; rw [if_neg hs]
  · rfl
theorem behindB_some {b x : List UInt8} {s m : Nat} (h : nextB b = some (s, x)) (hs : s ≤ m) : behindB b m = behindB (b.drop (16 + x.length)) m := by
  rw [behindB]; split
  · rename_i h'; rw [h] at h'; injection h' with h'; injection h' with h1 h2; subst h1 h2; rw [if_pos hs]
  · rename_i h'; rw [h] at h'; cases h'
/-- frames of bodies, their numbers rising from seq -/
def framesB : Nat → List (List UInt8) → List UInt8
  | _, [] => []
  | seq, x :: l => frameB seq x ++ framesB (seq + 1) l
theorem framesB_app : ∀ (l m : List (List UInt8)) (seq : Nat), framesB seq (l ++ m) = framesB seq l ++ framesB (seq + l.length) m
  | [], m, seq => by simp [framesB]
  | x :: l, m, seq => by
    simp only [List.cons_append, framesB, List.length_cons, framesB_app l m (seq + 1), List.append_assoc]
    congr 3; omega
theorem framesB_snoc (l : List (List UInt8)) (x : List UInt8) (seq : Nat) : framesB seq (l ++ [x]) = framesB seq l ++ frameB (seq + l.length) x := by
  rw [framesB_app]; simp [framesB]
def total (l : List (List UInt8)) : Nat := (l.map List.length).sum
theorem total_cons (x : List UInt8) (l : List (List UInt8)) : total (x :: l) = x.length + total l := rfl
theorem total_app (l m : List (List UInt8)) : total (l ++ m) = total l + total m := by simp [total]
theorem framesB_length : ∀ (l : List (List UInt8)) (seq : Nat), (framesB seq l).length = 16 * l.length + total l
  | [], seq => rfl
  | x :: l, seq => by
    have := framesB_length l (seq + 1)
    simp only [framesB, List.length_append, frameB_length, List.length_cons, total_cons]; omega
theorem frameB_take (seq : Nat) (x r : List UInt8) : (frameB seq x ++ r).drop (16 + x.length) = r := List.drop_left' (frameB_length seq x)
/-- all frames are found again, up to where they end -/
theorem allB_frames : ∀ (l : List (List UInt8)) (seq : Nat) (r : List UInt8), (∀ x ∈ l, x.length ≤ 65536) → seq + l.length < 18446744073709551616 →
    allB (framesB seq l ++ r) seq = (l ++ (allB r (seq + l.length)).1, (framesB seq l).length + (allB r (seq + l.length)).2)
  | [], seq, r, _, _ => by simp [framesB]
  | x :: l, seq, r, hl, hs => by
    have ih := allB_frames l (seq + 1) r (fun y hy => hl y (by simp [hy])) (by simp at hs; omega)
    have hn := nextB_frame seq x (framesB (seq + 1) l ++ r) (by simp at hs; omega) (hl x (by simp))
    simp only [framesB, List.append_assoc]
    rw [allB_some hn, frameB_take, Nat.mod_eq_of_lt (by simp at hs; omega), ih, List.length_append, frameB_length, List.length_cons, show seq + 1 + l.length = seq + (l.length + 1) by omega]
    simp only [List.cons_append, Nat.add_assoc]
theorem behindB_frames : ∀ (l : List (List UInt8)) (seq m : Nat) (r : List UInt8), (∀ x ∈ l, x.length ≤ 65536) → seq + l.length ≤ m + 1 → m < 18446744073709551616 → behindB (framesB seq l ++ r) m = behindB r m
  | [], seq, m, r, _, _, _ => rfl
  | x :: l, seq, m, r, hl, hs, hm => by
    have ih := behindB_frames l (seq + 1) m r (fun y hy => hl y (by simp [hy])) (by simp at hs; omega) hm
    have hn := nextB_frame seq x (framesB (seq + 1) l ++ r) (by simp at hs; omega) (hl x (by simp))
    simp only [framesB, List.append_assoc]
    rw [behindB_some hn (by simp at hs; omega), frameB_take, ih]
theorem behindB_next {l : List (List UInt8)} {seq m : Nat} {r : List UInt8} (hl : ∀ x ∈ l, x.length ≤ 65536) (hm : m < seq) (hs : seq < 18446744073709551616) (hne : l ≠ []) : behindB (framesB seq l ++ r) m = framesB seq l ++ r := by
  cases l with
  | nil => exact absurd rfl hne
  | cons x l =>
    have hn := nextB_frame seq x (framesB (seq + 1) l ++ r) hs (hl x (by simp))
    simp only [framesB, List.append_assoc]
    exact behindB_other hn (by omega)
theorem allB_le : ∀ (k : Nat) (b : List UInt8) (seq : Nat), b.length ≤ k → (allB b seq).2 ≤ b.length ∧ (allB b seq).2 = 16 * (allB b seq).1.length + total (allB b seq).1
  | k, b, seq, hk => by
    cases h : nextB b with
    | none => rw [allB_none h]; exact ⟨by simp, rfl⟩
    | some p =>
      obtain ⟨s, x⟩ := p
      by_cases hs : s = seq
      · subst hs
        have hlt := nextB_len h
        have hi := (nextB_inv h).2.2.1
        cases k with
        | zero => omega
        | succ k =>
          have ih := allB_le k (b.drop (16 + x.length)) ((s + 1) % 18446744073709551616) (by omega)
          rw [allB_some h]
          simp only [List.length_cons, total_cons]
          simp only [List.length_drop] at ih hlt
          omega
      · rw [allB_other h hs]; exact ⟨by simp, rfl⟩
theorem behindB_suffix : ∀ (k : Nat) (b : List UInt8) (m : Nat), b.length ≤ k → ∃ j, j ≤ b.length ∧ behindB b m = b.drop j
  | k, b, m, hk => by
    cases h : nextB b with
    | none => exact ⟨0, by omega, by rw [behindB_none h]; rfl⟩
    | some p =>
      obtain ⟨s, x⟩ := p
      by_cases hs : s ≤ m
      · have hlt := nextB_len h
        have hi := (nextB_inv h).2.2.1
        cases k with
        | zero => omega
        | succ k =>
          obtain ⟨j, hj, e⟩ := behindB_suffix k (b.drop (16 + x.length)) m (by omega)
          rw [behindB_some h hs, e, List.drop_drop]
          simp only [List.length_drop] at hj
          exact ⟨_, by omega, rfl⟩
      · exact ⟨0, by omega, by rw [behindB_other h hs]; rfl⟩
end Go.Proofs.YtdabflkejhoghaaGreat.Hand
open Go
namespace Go.Proofs.YtdabflkejhoghaaGreat.Hand
set_option linter.unusedVariables false
def sSnap : List UInt8 := [115, 110, 97, 112]
def sLog : List UInt8 := [108, 111, 103]
def sNext : List UInt8 := [110, 101, 120, 116]
/-- one step behind another -/
def andD (r : Dk × Bool) (f : Dk → Dk × Bool) : Dk × Bool := if r.2 = true then f r.1 else (r.1, false)
theorem andD_true {r : Dk × Bool} {f : Dk → Dk × Bool} (h : r.2 = true) : andD r f = f r.1 := if_pos h
theorem andD_false {r : Dk × Bool} {f : Dk → Dk × Bool} (h : r.2 = false) : andD r f = (r.1, false) := if_neg (by simp [h])
def Dk.goneD (d : Dk) (nm : List UInt8) : Dk × Bool := if d.there nm = true then d.drop nm else (d, true)
def Dk.laidD (d : Dk) (b nm : List UInt8) : Dk × Bool := andD (andD (d.append sNext b) (fun d => d.sync sNext)) (fun d => d.rename sNext nm)
/-- the state of a disk, and its number -/
def Dk.stateD (d : Dk) : Option (List UInt8 × Nat) :=
  match d.look sSnap with
  | none => some ([], 0)
  | some f => match nextB f.b with
    | some (s, x) => if 16 + x.length = f.b.length then some (x, s) else none
    | none => none
def Dk.cutD (d : Dk) (rest : List UInt8) (n : Nat) : Dk × Bool := andD (d.goneD sNext) (fun d => if 0 < n then d.laidD (rest.take n) sLog else d.drop sLog)
def wrapN (n : Nat) : Nat := n % 18446744073709551616
/-- what an opening answers: the disk then, the error, the state, what happened behind it, the number -/
structure Opened where
  d : Dk
  err : Nat
  snap : List UInt8
  rows : List (List UInt8)
  seq : Nat
def Dk.openD (d : Dk) : Opened :=
  if d.dead = true then ⟨d, 22, [], [], 0⟩
  else match d.stateD with
  | none => ⟨d, 23, [], [], 0⟩
  | some (x, seq) =>
    if (allB (behindB (d.old sLog).b seq) (wrapN (seq + 1))).2 < (behindB (d.old sLog).b seq).length then
      if (d.cutD (behindB (d.old sLog).b seq) (allB (behindB (d.old sLog).b seq) (wrapN (seq + 1))).2).2 = true then
        ⟨(d.cutD (behindB (d.old sLog).b seq) (allB (behindB (d.old sLog).b seq) (wrapN (seq + 1))).2).1, 0, x, (allB (behindB (d.old sLog).b seq) (wrapN (seq + 1))).1, wrapN (seq + (allB (behindB (d.old sLog).b seq) (wrapN (seq + 1))).1.length)⟩
      else ⟨(d.cutD (behindB (d.old sLog).b seq) (allB (behindB (d.old sLog).b seq) (wrapN (seq + 1))).2).1, 22, [], [], 0⟩
    else ⟨d, 0, x, (allB (behindB (d.old sLog).b seq) (wrapN (seq + 1))).1, wrapN (seq + (allB (behindB (d.old sLog).b seq) (wrapN (seq + 1))).1.length)⟩
/-- a log: its disk, its number, is it broken? -/
structure Lg where
  d : Dk
  seq : Nat
  broken : Bool
def Lg.failed (l : Lg) : Lg × Nat := if l.d.dead = true then (⟨l.d, l.seq, true⟩, 22) else (l, 21)
def Lg.append (l : Lg) (b : List UInt8) : Lg × Nat :=
  if l.broken = true then (l, 22)
  else if 65536 < b.length then (l, 3)
  else if (andD (l.d.append sLog (frameB (wrapN (l.seq + 1)) b)) (fun d => d.sync sLog)).2 = true then (⟨(andD (l.d.append sLog (frameB (wrapN (l.seq + 1)) b)) (fun d => d.sync sLog)).1, wrapN (l.seq + 1), l.broken⟩, 0)
  else Lg.failed ⟨(andD (l.d.append sLog (frameB (wrapN (l.seq + 1)) b)) (fun d => d.sync sLog)).1, l.seq, l.broken⟩
def Dk.packD (d : Dk) (f : List UInt8) : Dk × Bool := andD (andD (d.goneD sNext) (fun d => d.laidD f sSnap)) (fun d => d.goneD sLog)
def Lg.pack (l : Lg) (b : List UInt8) : Lg × Nat :=
  if l.broken = true then (l, 22)
  else if 65536 < b.length then (l, 3)
  else if (l.d.packD (frameB l.seq b)).2 = true then (⟨(l.d.packD (frameB l.seq b)).1, l.seq, l.broken⟩, 0)
  else if (l.d.packD (frameB l.seq b)).1.dead = true then (⟨(l.d.packD (frameB l.seq b)).1, l.seq, true⟩, 22)
  else (⟨((l.d.packD (frameB l.seq b)).1.goneD sNext).1, l.seq, l.broken⟩, 21)

/-- a disk with the log's files alone -/
structure Dk.Log3 (d : Dk) : Prop where
  ok : d.Ok
  names : ∀ f ∈ d.files, f.name = sSnap ∨ f.name = sLog ∨ f.name = sNext
def Nm3 (nm : List UInt8) : Prop := nm = sSnap ∨ nm = sLog ∨ nm = sNext
theorem Nm3.named {nm : List UInt8} (h : Nm3 nm) : named nm = true := by rcases h with rfl | rfl | rfl <;> decide
theorem rising3 : ∀ {l : List F}, Rising F.name l → (∀ f ∈ l, f.name = sSnap ∨ f.name = sLog ∨ f.name = sNext) → l.length ≤ 3 := by
  intro l hr hn
  have hd := hr.nodup
  have hs : ∀ x ∈ l.map F.name, x ∈ [sSnap, sLog, sNext] := by
    intro x hx
    obtain ⟨f, hf, rfl⟩ := List.mem_map.1 hx
    simpa using hn f hf
  have := List.Nodup.length_le_of_subset hd hs
  simpa using this
theorem Dk.Log3.few {d : Dk} (h : d.Log3) : d.files.length ≤ 3 := rising3 h.ok.rising h.names
theorem Dk.Log3.refuses {d : Dk} (h : d.Log3) {nm : List UInt8} (hn : Nm3 nm) (m : Nat) : d.refuses nm m = (d.dead || decide (d.room < used d.files + m)) := by
  have h8 : decide (8 ≤ d.files.length) = false := decide_eq_false (by have := h.few; omega)
  unfold Dk.refuses
  rw [hn.named, h8]; simp
end Go.Proofs.YtdabflkejhoghaaGreat.Hand
open Go
namespace Go.Proofs.YtdabflkejhoghaaGreat.Hand
set_option linter.unusedVariables false
theorem stepDead {d : Dk} (h : d.dead = true ∨ d.fuse = some 0) : d.step = (⟨d.files, d.room, d.fuse, true⟩, false) := by unfold Dk.step; rw [if_pos h]
theorem stepLive {d : Dk} (h1 : d.dead = false) (h2 : d.fuse ≠ some 0) : d.step = (⟨d.files, d.room, d.fuse.map (· - 1), false⟩, true) := by
  unfold Dk.step; rw [if_neg (by simp [h1, h2])]
theorem Dk.Log3.put {d : Dk} (h : d.Log3) {x : F} (hx : Nm3 x.name) : ∀ f ∈ putBy F.name x d.files, f.name = sSnap ∨ f.name = sLog ∨ f.name = sNext := by
  intro f hf
  rcases mem_putBy hf with rfl | hf
  · exact hx
  · exact h.names f hf
theorem used_old {d : Dk} (h : d.Log3) (nm : List UInt8) : used (delBy F.name nm d.files) + (d.old nm).b.length = used d.files := by
  unfold Dk.old
  cases hl : d.look nm with
  | none =>
    have : delBy F.name nm d.files = d.files := delBy_none hl
    rw [this]; rfl
  | some f => exact used_del_old h.ok.rising hl
/-- what an append does to a disk that lives -/
structure Appended (d : Dk) (nm b : List UInt8) (d' : Dk) (j : Nat) : Prop where
  le : j ≤ b.length
  res : d.append nm b = (d', decide (j = b.length))
  log3 : d'.Log3
  dead : d'.dead = decide (j < b.length)
  room : d'.room = d.room
  calm : d.fuse = none → j = b.length ∧ d'.fuse = none
  used : used d'.files = Hand.used d.files + j
  look : d'.look nm = some ⟨nm, (d.old nm).b ++ b.take j, (d.old nm).lasts⟩
  other : ∀ m, m ≠ nm → d'.look m = d.look m
theorem Dk.Log3.append {d : Dk} (h : d.Log3) (hd : d.dead = false) {nm : List UInt8} (hn : Nm3 nm) {b : List UInt8} (hr : used d.files + b.length ≤ d.room) : ∃ d' j, Appended d nm b d' j := by
  have hrf : d.refuses nm b.length = false := by rw [h.refuses hn, hd]; simp; omega
  have he : d.append nm b = (d.appended nm b, decide (d.burn b.length = b.length)) := by unfold Dk.append; rw [hrf]; rfl
  have hok := h.ok.append nm b
  rw [he] at hok
  refine ⟨d.appended nm b, d.burn b.length, d.burn_le _, he, ⟨hok, ?_⟩, rfl, rfl, ?_, ?_, ?_, ?_⟩
  · exact h.put (x := ⟨nm, _, _⟩) hn
  · intro hf
    unfold Dk.appended Dk.burn
    rw [hf]; simp
  · have hu := used_old h nm
    have hb := d.burn_le b.length
    show Hand.used (putBy F.name ⟨nm, (d.old nm).b ++ b.take (d.burn b.length), (d.old nm).lasts⟩ d.files) = _
    rw [used_put, List.length_append, List.length_take, Nat.min_eq_left hb]
    show (d.old nm).b.length + d.burn b.length + Hand.used (delBy F.name nm d.files) = _
    omega
  · exact look_put_same' (nm := F.name) rfl
  · intro m hm
    exact look_put_other (nm := F.name) (x := ⟨nm, _, _⟩) (fun e => hm e.symm)
/-- what another act does to a disk: done, or dead -/
structure Synced (d : Dk) (nm : List UInt8) (f : F) (d' : Dk) (ok : Bool) : Prop where
  res : d.sync nm = (d', ok)
  log3 : d'.Log3
  dead : d'.dead = !ok
  room : d'.room = d.room
  calm : d.fuse = none → ok = true ∧ d'.fuse = none
  used : used d'.files = Hand.used d.files
  done : ok = true → d'.look nm = some ⟨nm, f.b, f.b.length⟩
  not : ok = false → d'.look nm = d.look nm
  other : ∀ m, m ≠ nm → d'.look m = d.look m
theorem Dk.Log3.sync {d : Dk} (h : d.Log3) (hd : d.dead = false) {nm : List UInt8} {f : F} (hf : d.look nm = some f) : ∃ d' ok, Synced d nm f d' ok := by
  have hok := h.ok.sync nm
  have hfn := (Dk.look_mem hf).2
  have hnm := h.names f (Dk.look_mem hf).1
  by_cases hz : d.fuse = some 0
  · have hs := stepDead (d := d) (.inr hz)
    have he : d.sync nm = (⟨d.files, d.room, d.fuse, true⟩, false) := by unfold Dk.sync; rw [hf, hs]; rfl
    rw [he] at hok
    exact ⟨_, _, he, ⟨hok, h.names⟩, rfl, rfl, (fun hf => by rw [hf] at hz; cases hz), rfl, (fun e => by cases e), fun _ => rfl, fun _ _ => rfl⟩
  · have hs := stepLive hd hz
    have he : d.sync nm = (Dk.synced ⟨d.files, d.room, d.fuse.map (· - 1), false⟩ f, true) := by unfold Dk.sync; rw [hf, hs]; rfl
    rw [he] at hok
    refine ⟨_, _, he, ⟨hok, h.put (x := ⟨f.name, f.b, f.b.length⟩) hnm⟩, rfl, rfl, (fun hf => ⟨rfl, by show Option.map _ d.fuse = none; rw [hf]; rfl⟩), ?_, fun _ => ?_, (fun e => by cases e), ?_⟩
    · have hu := used_old h nm
      have hold : (d.old nm).b = f.b := by unfold Dk.old; rw [hf]; rfl
      rw [hold] at hu
      show Hand.used (putBy F.name ⟨f.name, f.b, f.b.length⟩ d.files) = _
      rw [used_put, hfn]
      show f.b.length + Hand.used (delBy F.name nm d.files) = _
      omega
    · show lookBy F.name nm (putBy F.name ⟨f.name, f.b, f.b.length⟩ d.files) = _
      rw [← hfn]
      exact look_put_same' (nm := F.name) rfl
    · intro m hm
      exact look_put_other (nm := F.name) (x := ⟨f.name, f.b, f.b.length⟩) (fun e => hm (e.symm.trans hfn))
structure Dropped (d : Dk) (nm : List UInt8) (f : F) (d' : Dk) (ok : Bool) : Prop where
  res : d.drop nm = (d', ok)
  log3 : d'.Log3
  dead : d'.dead = !ok
  room : d'.room = d.room
  calm : d.fuse = none → ok = true ∧ d'.fuse = none
  used : used d'.files ≤ Hand.used d.files
  usedDone : ok = true → Hand.used d'.files + f.b.length = Hand.used d.files
  done : ok = true → d'.look nm = none
  not : ok = false → d'.look nm = d.look nm
  other : ∀ m, m ≠ nm → d'.look m = d.look m
theorem Dk.Log3.drop {d : Dk} (h : d.Log3) (hd : d.dead = false) {nm : List UInt8} {f : F} (hf : d.look nm = some f) : ∃ d' ok, Dropped d nm f d' ok := by
  have hok := h.ok.drop nm
  by_cases hz : d.fuse = some 0
  · have hs := stepDead (d := d) (.inr hz)
    have he : d.drop nm = (⟨d.files, d.room, d.fuse, true⟩, false) := by unfold Dk.drop; rw [hf, hs]; rfl
    rw [he] at hok
    exact ⟨_, _, he, ⟨hok, h.names⟩, rfl, rfl, (fun hf => by rw [hf] at hz; cases hz), Nat.le_refl _, (fun e => by cases e), (fun e => by cases e), fun _ => rfl, fun _ _ => rfl⟩
  · have hs := stepLive hd hz
    have he : d.drop nm = (Dk.dropped ⟨d.files, d.room, d.fuse.map (· - 1), false⟩ nm, true) := by unfold Dk.drop; rw [hf, hs]; rfl
    rw [he] at hok
    have hu : Hand.used (delBy F.name nm d.files) + f.b.length = Hand.used d.files := used_del_old h.ok.rising hf
    refine ⟨_, _, he, ⟨hok, fun g hg => h.names g (mem_delBy.1 hg).1⟩, rfl, rfl, (fun hf => ⟨rfl, by show Option.map _ d.fuse = none; rw [hf]; rfl⟩), used_del_le _ _, fun _ => hu, fun _ => look_del_same, (fun e => by cases e), fun m hm => look_del_other hm⟩
structure Renamed (d : Dk) (fr to : List UInt8) (f : F) (d' : Dk) (ok : Bool) : Prop where
  res : d.rename fr to = (d', ok)
  log3 : d'.Log3
  dead : d'.dead = !ok
  room : d'.room = d.room
  calm : d.fuse = none → ok = true ∧ d'.fuse = none
  used : used d'.files ≤ Hand.used d.files
  done : ok = true → d'.look to = some ⟨to, f.b, f.lasts⟩ ∧ d'.look fr = none
  not : ok = false → ∀ m, d'.look m = d.look m
  other : ∀ m, m ≠ fr → m ≠ to → d'.look m = d.look m
theorem Dk.Log3.rename {d : Dk} (h : d.Log3) (hd : d.dead = false) {fr to : List UInt8} {f : F} (hf : d.look fr = some f) (ht : Nm3 to) (hne : fr ≠ to) : ∃ d' ok, Renamed d fr to f d' ok := by
  have hok := h.ok.rename fr to
  have hfn := (Dk.look_mem hf).2
  have hfm := (Dk.look_mem hf).1
  by_cases hz : d.fuse = some 0
  · have hs := stepDead (d := d) (.inr hz)
    have he : d.rename fr to = (⟨d.files, d.room, d.fuse, true⟩, false) := by unfold Dk.rename; rw [hf, hs, ht.named]; rfl
    rw [he] at hok
    exact ⟨_, _, he, ⟨hok, h.names⟩, rfl, rfl, (fun hf => by rw [hf] at hz; cases hz), Nat.le_refl _, (fun e => by cases e), fun _ _ => rfl, fun _ _ _ => rfl⟩
  · have hs := stepLive hd hz
    have he : d.rename fr to = (Dk.moved ⟨d.files, d.room, d.fuse.map (· - 1), false⟩ f to, true) := by unfold Dk.rename; rw [hf, hs, ht.named]; rfl
    rw [he] at hok
    refine ⟨_, _, he, ⟨hok, ?_⟩, rfl, rfl, (fun hf => ⟨rfl, by show Option.map _ d.fuse = none; rw [hf]; rfl⟩), ?_, fun _ => ⟨?_, ?_⟩, (fun e => by cases e), ?_⟩
    · intro g hg
      rcases mem_putBy hg with rfl | hg
      · exact ht
      · exact h.names g (mem_delBy.1 hg).1
    · show Hand.used (putBy F.name ⟨to, f.b, f.lasts⟩ (delBy F.name f.name d.files)) ≤ _
      rw [used_put, hfn]
      have h1 := used_del_le to (delBy F.name fr d.files)
      have h2 : Hand.used (delBy F.name fr d.files) + f.b.length = Hand.used d.files := used_del_old h.ok.rising hf
      show f.b.length + Hand.used (delBy F.name to (delBy F.name fr d.files)) ≤ _
      omega
    · exact look_put_same' (nm := F.name) rfl
    · show lookBy F.name fr (putBy F.name ⟨to, f.b, f.lasts⟩ (delBy F.name f.name d.files)) = _
      rw [look_put_other (nm := F.name) (x := ⟨to, _, _⟩) (fun e => hne e.symm), hfn]
      exact look_del_same
    · intro m h1 h2
      show lookBy F.name m (putBy F.name ⟨to, f.b, f.lasts⟩ (delBy F.name f.name d.files)) = _
      rw [look_put_other (nm := F.name) (x := ⟨to, _, _⟩) (fun e => h2 e.symm), hfn]
      exact look_del_other h1
theorem crashL_look (nm : List UInt8) : ∀ (k : Nat) (l : List F), (∀ f ∈ l, f.lasts ≤ f.b.length) →
    (lookBy F.name nm l = none → lookBy F.name nm (crashL k l) = none) ∧ (∀ f, lookBy F.name nm l = some f → ∃ n, f.lasts ≤ n ∧ n ≤ f.b.length ∧ lookBy F.name nm (crashL k l) = some ⟨nm, f.b.take n, n⟩)
  | _, [], _ => ⟨fun _ => rfl, fun f h => by simp [lookBy] at h⟩
  | k, g :: r, hl => by
    obtain ⟨ih1, ih2⟩ := crashL_look nm (k - min (g.b.length - g.lasts) k) r (fun f hf => hl f (by simp [hf]))
    have hg := hl g (by simp)
    by_cases hn : g.name = nm
    · refine ⟨fun h => by simp [lookBy, hn] at h, fun f h => ?_⟩
      have : g = f := by simpa [lookBy, hn] using h
      subst this
      exact ⟨g.lasts + min (g.b.length - g.lasts) k, by omega, by omega, by simp [lookBy, crashL, hn]⟩
    · have e1 : lookBy F.name nm (g :: r) = lookBy F.name nm r := by simp [lookBy, hn]
      have e2 : ∀ k, lookBy F.name nm (crashL k (g :: r)) = lookBy F.name nm (crashL (k - min (g.b.length - g.lasts) k) r) := by intro k; simp [lookBy, crashL, hn]
      rw [e1, e2]
      exact ⟨ih1, ih2⟩
structure Crashed (d d' : Dk) : Prop where
  log3 : d'.Log3
  dead : d'.dead = false
  room : d'.room = d.room
  fuse : d'.fuse = none
  used : used d'.files ≤ Hand.used d.files
  none : ∀ nm, d.look nm = none → d'.look nm = none
  some : ∀ nm f, d.look nm = some f → ∃ n, f.lasts ≤ n ∧ n ≤ f.b.length ∧ d'.look nm = some ⟨nm, f.b.take n, n⟩
theorem Dk.Log3.crash {d : Dk} (h : d.Log3) (keep : Int) : Crashed d (d.crash keep) := by
  refine ⟨⟨h.ok.crash keep, ?_⟩, rfl, rfl, rfl, crashL_used _ _, fun nm => (crashL_look nm keep.toNat d.files h.ok.lasts).1, fun nm => (crashL_look nm keep.toNat d.files h.ok.lasts).2⟩
  intro f hf
  have : f.name ∈ d.files.map F.name := by rw [← crashL_names keep.toNat d.files]; exact List.mem_map_of_mem hf
  obtain ⟨g, hg, e⟩ := List.mem_map.1 this
  rw [← e]; exact h.names g hg
theorem Dk.Log3.new (room : Int) : (Dk.new room).Log3 := ⟨Dk.Ok.new room, by simp [Dk.new]⟩
theorem Dk.Log3.setFuse {d : Dk} (h : d.Log3) (n : Int) : (d.setFuse n).Log3 ∧ (d.setFuse n).room = d.room ∧ (d.setFuse n).files = d.files ∧ (d.setFuse n).dead = d.dead := by
  unfold Dk.setFuse
  split
  · exact ⟨h, rfl, rfl, rfl⟩
  · rename_i hd
    exact ⟨⟨⟨h.ok.rising, h.ok.names, h.ok.lasts, h.ok.used, h.ok.room, h.ok.few⟩, h.names⟩, rfl, rfl, by simp at hd; exact hd.symm⟩
end Go.Proofs.YtdabflkejhoghaaGreat.Hand
open Go
namespace Go.Proofs.YtdabflkejhoghaaGreat.Hand
set_option linter.unusedVariables false
structure Base (d d' : Dk) (ok : Bool) (grow : Nat) : Prop where
  log3 : d'.Log3
  dead : d'.dead = !ok
  room : d'.room = d.room
  calm : d.fuse = none → ok = true ∧ d'.fuse = none
  used : used d'.files ≤ used d.files + grow
theorem Base.trans {d e f : Dk} {ok : Bool} {g h : Nat} (a : Base d e true g) (b : Base e f ok h) : Base d f ok (g + h) :=
  ⟨b.log3, b.dead, b.room.trans a.room, fun hf => b.calm (a.calm hf).2, by have := a.used; have := b.used; omega⟩
theorem Base.mono {d e : Dk} {ok : Bool} {g h : Nat} (a : Base d e ok g) (b : g ≤ h) : Base d e ok h := ⟨a.log3, a.dead, a.room, a.calm, by have := a.used; omega⟩
theorem Base.then0 {d e f : Dk} {ok : Bool} {g : Nat} (a : Base d e true g) (b : Base e f ok 0) : Base d f ok g := (a.trans b).mono (by omega)
theorem Base.refl {d : Dk} (h : d.Log3) (hd : d.dead = false) : Base d d true 0 := ⟨h, hd, rfl, fun hf => ⟨rfl, hf⟩, Nat.le_refl _⟩
theorem Base.live {d e : Dk} {g : Nat} (a : Base d e true g) : e.dead = false := a.dead
structure Gone (d : Dk) (nm : List UInt8) (d' : Dk) (ok : Bool) : Prop where
  res : d.goneD nm = (d', ok)
  base : Base d d' ok 0
  done : ok = true → d'.look nm = none
  not : ok = false → d'.look nm = d.look nm
  other : ∀ m, m ≠ nm → d'.look m = d.look m
theorem Dk.Log3.gone {d : Dk} (h : d.Log3) (hd : d.dead = false) (nm : List UInt8) : ∃ d' ok, Gone d nm d' ok := by
  cases hl : d.look nm with
  | none => exact ⟨d, true, by unfold Dk.goneD Dk.there; rw [hl]; rfl, Base.refl h hd, fun _ => hl, (fun e => by cases e), fun _ _ => rfl⟩
  | some f =>
    obtain ⟨d', ok, D⟩ := h.drop hd hl
    exact ⟨d', ok, by unfold Dk.goneD Dk.there; rw [hl]; exact D.res, ⟨D.log3, D.dead, D.room, D.calm, D.used⟩, D.done, D.not, D.other⟩
theorem ne1 : sLog ≠ sNext := by decide
theorem ne2 : sSnap ≠ sNext := by decide
theorem ne3 : sLog ≠ sSnap := by decide
structure Laid (d : Dk) (b nm : List UInt8) (d' : Dk) (ok : Bool) : Prop where
  res : d.laidD b nm = (d', ok)
  base : Base d d' ok b.length
  done : ok = true → d'.look nm = some ⟨nm, b, b.length⟩ ∧ d'.look sNext = none
  not : ok = false → d'.look nm = d.look nm
  other : ∀ m, m ≠ nm → m ≠ sNext → d'.look m = d.look m
theorem Dk.Log3.laid {d : Dk} (h : d.Log3) (hd : d.dead = false) {b nm : List UInt8} (hn : Nm3 nm) (hne : nm ≠ sNext) (hx : d.look sNext = none) (hr : used d.files + b.length ≤ d.room) : ∃ d' ok, Laid d b nm d' ok := by
  have hold : d.old sNext = ⟨sNext, [], 0⟩ := by unfold Dk.old; rw [hx]; rfl
  obtain ⟨d1, j, A⟩ := h.append hd (nm := sNext) (.inr (.inr rfl)) (b := b) hr
  have hl1 := A.look
  rw [hold] at hl1
  simp only [List.nil_append] at hl1
  by_cases hj : j = b.length
  · subst hj
    have hr1 : (d.append sNext b) = (d1, true) := by rw [A.res]; simp
    have B1 : Base d d1 true b.length := ⟨A.log3, by rw [A.dead]; simp, A.room, fun hf => ⟨rfl, (A.calm hf).2⟩, by rw [A.used]; omega⟩
    rw [List.take_length] at hl1
    obtain ⟨d2, ok2, S⟩ := A.log3.sync B1.live hl1
    cases ok2 with
    | false =>
      refine ⟨d2, false, ?_, (B1.then0 ⟨S.log3, S.dead, S.room, S.calm, Nat.le_of_eq S.used⟩), (fun e => by cases e), fun _ => ?_, fun m h1 h2 => ?_⟩
      · unfold Dk.laidD; rw [hr1, andD_true (r := (d1, true)) rfl, S.res]; rfl
      · rw [S.other nm hne, A.other nm hne]
      · rw [S.other m h2, A.other m h2]
    | true =>
      have B2 : Base d d2 true b.length := B1.then0 ⟨S.log3, S.dead, S.room, S.calm, Nat.le_of_eq S.used⟩
      obtain ⟨d3, ok3, R⟩ := S.log3.rename B2.live (S.done rfl) hn (Ne.symm hne)
      refine ⟨d3, ok3, ?_, (B2.then0 ⟨R.log3, R.dead, R.room, R.calm, R.used⟩), fun e => ?_, fun e => ?_, fun m h1 h2 => ?_⟩
      · unfold Dk.laidD; rw [hr1, andD_true (r := (d1, true)) rfl, S.res]; exact R.res
      · exact R.done e
      · rw [R.not e, S.other nm hne, A.other nm hne]
      · rw [R.other m h2 h1, S.other m h2, A.other m h2]
  · have hlt : j < b.length := by have := A.le; omega
    have hr1 : (d.append sNext b) = (d1, false) := by rw [A.res, decide_eq_false hj]
    refine ⟨d1, false, ?_, ⟨A.log3, by rw [A.dead]; simp [hlt], A.room, fun hf => absurd (A.calm hf).1 hj, by rw [A.used]; omega⟩, (fun e => by cases e), fun _ => A.other nm hne, fun m h1 h2 => A.other m h2⟩
    unfold Dk.laidD; rw [hr1]; rfl
structure Cut (d : Dk) (rest : List UInt8) (n : Nat) (d' : Dk) (ok : Bool) : Prop where
  res : d.cutD rest n = (d', ok)
  base : Base d d' ok n
  done : ok = true → (0 < n → d'.look sLog = some ⟨sLog, rest.take n, n⟩) ∧ (n = 0 → d'.look sLog = none)
  next : ok = true → d'.look sNext = none
  not : ok = false → d'.look sLog = d.look sLog
  snap : d'.look sSnap = d.look sSnap
theorem Dk.Log3.cut {d : Dk} (h : d.Log3) (hd : d.dead = false) {rest : List UInt8} {n : Nat} (hn : n ≤ rest.length) {f : F} (hf : d.look sLog = some f) (hr : used d.files + n ≤ d.room) : ∃ d' ok, Cut d rest n d' ok := by
  obtain ⟨d1, ok1, G⟩ := h.gone hd sNext
  have hlog : d1.look sLog = some f := by rw [G.other _ ne1, hf]
  cases ok1 with
  | false => exact ⟨d1, false, by unfold Dk.cutD; rw [G.res]; rfl, G.base.mono (by omega), (fun e => by cases e), (fun e => by cases e), fun _ => G.other _ ne1, G.other _ ne2⟩
  | true =>
    have hl := G.base.live
    have hu := G.base.used
    by_cases h0 : 0 < n
    · have htl : (rest.take n).length = n := by simp; omega
      obtain ⟨d2, ok2, L⟩ := G.base.log3.laid hl (b := rest.take n) (nm := sLog) (.inr (.inl rfl)) ne1 (G.done rfl) (by rw [htl, G.base.room]; omega)
      refine ⟨d2, ok2, ?_, ?_, fun e => ⟨fun _ => ?_, fun e => by omega⟩, fun e => (L.done e).2, fun e => ?_, ?_⟩
      · unfold Dk.cutD; rw [G.res, andD_true (r := (d1, true)) rfl, if_pos h0]; exact L.res
      · have := G.base.trans L.base; rw [htl] at this; exact this.mono (by omega)
      · have := (L.done e).1; rwa [htl] at this
      · rw [L.not e, hlog, hf]
      · rw [L.other _ (Ne.symm ne3) ne2, G.other _ ne2]
    · obtain ⟨d2, ok2, D⟩ := G.base.log3.drop hl hlog
      refine ⟨d2, ok2, ?_, ?_, fun e => ⟨fun h => absurd h h0, fun _ => D.done e⟩, fun e => ?_, fun e => ?_, ?_⟩
      · unfold Dk.cutD; rw [G.res, andD_true (r := (d1, true)) rfl, if_neg h0]; exact D.res
      · exact (G.base.then0 ⟨D.log3, D.dead, D.room, D.calm, D.used⟩).mono (by omega)
      · rw [D.other _ (Ne.symm ne1), G.done rfl]
      · rw [D.not e, hlog, hf]
      · rw [D.other _ (Ne.symm ne3), G.other _ ne2]
structure Packed (d : Dk) (f : List UInt8) (d' : Dk) (ok : Bool) : Prop where
  res : d.packD f = (d', ok)
  base : Base d d' ok f.length
  done : ok = true → d'.look sSnap = some ⟨sSnap, f, f.length⟩ ∧ d'.look sNext = none ∧ d'.look sLog = none
  not : ok = false → (d'.look sSnap = d.look sSnap ∨ d'.look sSnap = some ⟨sSnap, f, f.length⟩) ∧ d'.look sLog = d.look sLog
theorem Dk.Log3.pack {d : Dk} (h : d.Log3) (hd : d.dead = false) {f : List UInt8} (hr : used d.files + f.length ≤ d.room) : ∃ d' ok, Packed d f d' ok := by
  obtain ⟨d1, ok1, G⟩ := h.gone hd sNext
  cases ok1 with
  | false => exact ⟨d1, false, by unfold Dk.packD; rw [G.res]; rfl, G.base.mono (by omega), (fun e => by cases e), fun _ => ⟨.inl (G.other _ ne2), G.other _ ne1⟩⟩
  | true =>
    have hu := G.base.used
    obtain ⟨d2, ok2, L⟩ := G.base.log3.laid G.base.live (b := f) (nm := sSnap) (.inl rfl) ne2 (G.done rfl) (by rw [G.base.room]; omega)
    have B2 := G.base.trans L.base
    have hlog2 : d2.look sLog = d.look sLog := by rw [L.other _ ne3 ne1, G.other _ ne1]
    cases ok2 with
    | false =>
      refine ⟨d2, false, ?_, B2.mono (by omega), (fun e => by cases e), fun _ => ⟨.inl ?_, hlog2⟩⟩
      · unfold Dk.packD; rw [G.res, andD_true (r := (d1, true)) rfl, L.res]; rfl
      · rw [L.not rfl, G.other _ ne2]
    | true =>
      obtain ⟨d3, ok3, K⟩ := L.base.log3.gone L.base.live sLog
      refine ⟨d3, ok3, ?_, (B2.trans K.base).mono (by omega), fun e => ⟨?_, ?_, K.done e⟩, fun e => ⟨.inr ?_, ?_⟩⟩
      · unfold Dk.packD; rw [G.res, andD_true (r := (d1, true)) rfl, L.res]; exact K.res
      · rw [K.other _ (Ne.symm ne3)]; exact (L.done rfl).1
      · rw [K.other _ (Ne.symm ne1)]; exact (L.done rfl).2
      · rw [K.other _ (Ne.symm ne3)]; exact (L.done rfl).1
      · rw [K.not e, hlog2]
/-- an append to the log, and its sync -/
structure Logged (d : Dk) (f : List UInt8) (d' : Dk) (ok : Bool) : Prop where
  res : andD (d.append sLog f) (fun d => d.sync sLog) = (d', ok)
  base : Base d d' ok f.length
  done : ok = true → d'.look sLog = some ⟨sLog, (d.old sLog).b ++ f, ((d.old sLog).b ++ f).length⟩
  not : ok = false → ∃ j, j ≤ f.length ∧ d'.look sLog = some ⟨sLog, (d.old sLog).b ++ f.take j, (d.old sLog).lasts⟩
  other : ∀ m, m ≠ sLog → d'.look m = d.look m
theorem Dk.Log3.logged {d : Dk} (h : d.Log3) (hd : d.dead = false) {f : List UInt8} (hr : used d.files + f.length ≤ d.room) : ∃ d' ok, Logged d f d' ok := by
  obtain ⟨d1, j, A⟩ := h.append hd (nm := sLog) (.inr (.inl rfl)) (b := f) hr
  have hl1 := A.look
  by_cases hj : j = f.length
  · subst hj
    have hr1 : (d.append sLog f) = (d1, true) := by rw [A.res]; simp
    have B1 : Base d d1 true f.length := ⟨A.log3, by rw [A.dead]; simp, A.room, fun hf => ⟨rfl, (A.calm hf).2⟩, by rw [A.used]; omega⟩
    obtain ⟨d2, ok2, S⟩ := A.log3.sync B1.live hl1
    rw [List.take_length] at S hl1
    refine ⟨d2, ok2, by rw [hr1]; exact S.res, B1.then0 ⟨S.log3, S.dead, S.room, S.calm, Nat.le_of_eq S.used⟩, S.done, fun e => ⟨f.length, Nat.le_refl _, ?_⟩, fun m hm => ?_⟩
    · rw [S.not e, hl1, List.take_length]
    · rw [S.other m hm, A.other m hm]
  · have hlt : j < f.length := by have := A.le; omega
    have hr1 : (d.append sLog f) = (d1, false) := by rw [A.res, decide_eq_false hj]
    exact ⟨d1, false, by rw [hr1]; rfl, ⟨A.log3, by rw [A.dead]; simp [hlt], A.room, fun hf => absurd (A.calm hf).1 hj, by rw [A.used]; omega⟩, (fun e => by cases e), fun _ => ⟨j, A.le, A.look⟩, A.other⟩
end Go.Proofs.YtdabflkejhoghaaGreat.Hand
open Go
namespace Go.Proofs.YtdabflkejhoghaaGreat.Hand
set_option linter.unusedVariables false
theorem wrap_small {n : Nat} (h : n < 18446744073709551616) : wrapN n = n := Nat.mod_eq_of_lt h
theorem state_none {d : Dk} (h : d.look sSnap = none) : d.stateD = some ([], 0) := by unfold Dk.stateD; rw [h]
theorem state_frame {d : Dk} {f : F} {m : Nat} {x : List UInt8} (h : d.look sSnap = some f) (hf : f.b = frameB m x) (hm : m < 18446744073709551616) (hx : x.length ≤ 65536) : d.stateD = some (x, m) := by
  have hn := nextB_frame m x [] hm hx
  rw [List.append_nil] at hn
  unfold Dk.stateD
  rw [h]
  simp only
  rw [hf, hn]
  simp only
  rw [if_pos (by rw [frameB_length])]
theorem old_none' {d : Dk} {nm : List UInt8} (h : d.look nm = none) : d.old nm = ⟨nm, [], 0⟩ := by unfold Dk.old; rw [h]; rfl
theorem old_some' {d : Dk} {nm : List UInt8} {f : F} (h : d.look nm = some f) : d.old nm = f := by unfold Dk.old; rw [h]; rfl
theorem nextB_nil : nextB [] = none := by unfold nextB; rw [if_pos (by simp)]
/-- an opening where nothing is cut -/
theorem open_calm {d : Dk} (hd : d.dead = false) {x : List UInt8} {m : Nat} (hs : d.stateD = some (x, m)) {rows : List (List UInt8)} (hl : (d.old sLog).b = framesB (m + 1) rows) (hr : ∀ y ∈ rows, y.length ≤ 65536) (hm : m + 1 + rows.length < 18446744073709551616) :
    d.openD = ⟨d, 0, x, rows, m + rows.length⟩ := by
  have hb : behindB (framesB (m + 1) rows) m = framesB (m + 1) rows := by
    by_cases h0 : rows = []
    · subst h0; exact behindB_none nextB_nil
    · have := behindB_next (r := []) hr (show m < m + 1 by omega) (by omega) h0
      rwa [List.append_nil] at this
  have ha : allB (framesB (m + 1) rows) (m + 1) = (rows, (framesB (m + 1) rows).length) := by
    have := allB_frames rows (m + 1) [] hr hm
    rw [List.append_nil, allB_none nextB_nil] at this
    simpa using this
  unfold Dk.openD
  rw [if_neg (by simp [hd]), hs]
  simp only
  rw [hl, hb, wrap_small (show m + 1 < 18446744073709551616 by omega), ha, if_neg (by simp), wrap_small (by simp only; omega)]
theorem Lg.append_cases {l : Lg} (hb : l.broken = false) (h3 : l.d.Log3) (hd : l.d.dead = false) {b : List UInt8} (hl : b.length ≤ 65536) (hr : used l.d.files + (16 + b.length) ≤ l.d.room) :
    ∃ d' ok, Logged l.d (frameB (wrapN (l.seq + 1)) b) d' ok ∧ l.append b = if ok = true then (⟨d', wrapN (l.seq + 1), false⟩, 0) else (⟨d', l.seq, true⟩, 22) := by
  obtain ⟨d', ok, L⟩ := h3.logged hd (f := frameB (wrapN (l.seq + 1)) b) (by rw [frameB_length]; exact hr)
  refine ⟨d', ok, L, ?_⟩
  unfold Lg.append
  rw [if_neg (by simp [hb]), if_neg (by omega), L.res]
  cases ok with
  | true => simp [hb]
  | false => have := L.base.dead; simp [Lg.failed, this]
theorem Lg.append_full {l : Lg} (hb : l.broken = false) (h3 : l.d.Log3) (hd : l.d.dead = false) {b : List UInt8} (hl : b.length ≤ 65536) (hr : l.d.room < used l.d.files + (16 + b.length)) : l.append b = (l, 21) := by
  have hrf : l.d.refuses sLog (frameB (wrapN (l.seq + 1)) b).length = true := by rw [h3.refuses (.inr (.inl rfl)), frameB_length]; simp; omega
  have he : l.d.append sLog (frameB (wrapN (l.seq + 1)) b) = (l.d, false) := by unfold Dk.append; rw [if_pos hrf]
  unfold Lg.append
  rw [if_neg (by simp [hb]), if_neg (by omega), he]
  obtain ⟨d, q, br⟩ := l
  simp only at hd
  simp [andD, Lg.failed, hd]
theorem Lg.pack_cases {l : Lg} (hb : l.broken = false) (h3 : l.d.Log3) (hd : l.d.dead = false) {b : List UInt8} (hl : b.length ≤ 65536) (hr : used l.d.files + (16 + b.length) ≤ l.d.room) :
    ∃ d' ok, Packed l.d (frameB l.seq b) d' ok ∧ l.pack b = if ok = true then (⟨d', l.seq, false⟩, 0) else (⟨d', l.seq, true⟩, 22) := by
  obtain ⟨d', ok, L⟩ := h3.pack hd (f := frameB l.seq b) (by rw [frameB_length]; exact hr)
  refine ⟨d', ok, L, ?_⟩
  unfold Lg.pack
  rw [if_neg (by simp [hb]), if_neg (by omega), L.res]
  cases ok with
  | true => simp [hb]
  | false => have := L.base.dead; simp [this]
/-- an opening, whatever lies behind -/
theorem open_cases {d : Dk} (h3 : d.Log3) (hd : d.dead = false) {x : List UInt8} {m : Nat} (hs : d.stateD = some (x, m)) {rest : List UInt8} (hre : behindB (d.old sLog).b m = rest) {rows : List (List UInt8)} {n : Nat} (ha : allB rest (wrapN (m + 1)) = (rows, n)) (hr : used d.files + n ≤ d.room) :
    (n = rest.length ∧ d.openD = ⟨d, 0, x, rows, wrapN (m + rows.length)⟩) ∨ (n < rest.length ∧ ∃ d' ok, Cut d rest n d' ok ∧ d.openD = if ok = true then ⟨d', 0, x, rows, wrapN (m + rows.length)⟩ else ⟨d', 22, [], [], 0⟩) := by
  have hle : n ≤ rest.length := by
    have := (allB_le _ rest (wrapN (m + 1)) (Nat.le_refl _)).1
    rw [ha] at this; exact this
  by_cases hlt : n < rest.length
  · right
    have hlog : ∃ f, d.look sLog = some f := by
      cases hk : d.look sLog with
      | some f => exact ⟨f, rfl⟩
      | none =>
        rw [old_none' hk] at hre
        have : behindB ([] : List UInt8) m = [] := behindB_none nextB_nil
        rw [this] at hre
        rw [← hre] at hlt
        simp at hlt
    obtain ⟨f, hf⟩ := hlog
    obtain ⟨d', ok, C⟩ := h3.cut hd (rest := rest) hle hf hr
    refine ⟨hlt, d', ok, C, ?_⟩
    unfold Dk.openD
    rw [if_neg (by simp [hd]), hs]
    simp only
    rw [hre, ha]
    simp only
    rw [if_pos hlt, C.res]
  · left
    refine ⟨by omega, ?_⟩
    unfold Dk.openD
    rw [if_neg (by simp [hd]), hs]
    simp only
    rw [hre, ha]
    simp only
    rw [if_neg hlt]
/-- a log that was opened on an empty disk, and k were appended to -/
structure Calm (l : Lg) (room base : Nat) (rows : List (List UInt8)) : Prop where
  log3 : l.d.Log3
  dead : l.d.dead = false
  fuse : l.d.fuse = none
  broken : l.broken = false
  room : l.d.room = room
  seq : l.seq = base + rows.length
  log : (l.d.old sLog).b = framesB (base + 1) rows
  len : ∀ y ∈ rows, y.length ≤ 65536
theorem Calm.append {l : Lg} {room base : Nat} {rows : List (List UInt8)} (h : Calm l room base rows) {b : List UInt8} (hl : b.length ≤ 65536) (hr : used l.d.files + (16 + b.length) ≤ room) (hq : base + rows.length + 1 < 18446744073709551616) :
    ∃ l', l.append b = (l', 0) ∧ Calm l' room base (rows ++ [b]) ∧ used l'.d.files ≤ used l.d.files + (16 + b.length) ∧ l'.d.look sSnap = l.d.look sSnap ∧ l'.seq = l.seq + 1 := by
  obtain ⟨d', ok, L, e⟩ := Lg.append_cases h.broken h.log3 h.dead hl (by rw [h.room]; exact hr)
  obtain ⟨rfl, hfu⟩ := L.base.calm h.fuse
  have hw : wrapN (l.seq + 1) = base + (rows.length + 1) := by rw [h.seq, wrap_small (by omega)]; omega
  rw [if_pos rfl] at e
  refine ⟨_, e, ⟨L.base.log3, L.base.dead, hfu, rfl, L.base.room.trans h.room, ?_, ?_, ?_⟩, ?_, L.other _ (by decide), ?_⟩
  · rw [hw]; simp
  · rw [old_some' (L.done rfl)]
    show (l.d.old sLog).b ++ frameB (wrapN (l.seq + 1)) b = _
    rw [h.log, hw, framesB_snoc]
    congr 2; omega
  · intro y hy
    rcases List.mem_append.1 hy with hy | hy
    · exact h.len y hy
    · rw [List.mem_singleton.1 hy]; exact hl
  · have := L.base.used; rw [frameB_length] at this; exact this
  · show wrapN (l.seq + 1) = l.seq + 1; rw [hw, h.seq]; omega
theorem Calm.open {l : Lg} {room base : Nat} {rows : List (List UInt8)} (h : Calm l room base rows) {x : List UInt8} (hs : l.d.stateD = some (x, base)) (hq : base + 1 + rows.length < 18446744073709551616) : l.d.openD = ⟨l.d, 0, x, rows, base + rows.length⟩ := open_calm h.dead hs h.log h.len hq
theorem Calm.new (room : Int) : Calm ⟨Dk.new room, 0, false⟩ (max 0 (min room 1048576)).toNat 0 [] := ⟨Dk.Log3.new room, rfl, rfl, rfl, rfl, rfl, rfl, by simp⟩
theorem open_new (room : Int) : (Dk.new room).openD = ⟨Dk.new room, 0, [], [], 0⟩ := (Calm.new room).open (state_none rfl) (by simp)
theorem Calm.pack {l : Lg} {room base : Nat} {rows : List (List UInt8)} (h : Calm l room base rows) {b : List UInt8} (hl : b.length ≤ 65536) (hr : used l.d.files + (16 + b.length) ≤ room) (hq : base + rows.length + 1 < 18446744073709551616) :
    ∃ l', l.pack b = (l', 0) ∧ Calm l' room (base + rows.length) [] ∧ used l'.d.files ≤ used l.d.files + (16 + b.length) ∧ l'.d.look sSnap = some ⟨sSnap, frameB l.seq b, 16 + b.length⟩ ∧ l'.seq = l.seq := by
  obtain ⟨d', ok, L, e⟩ := Lg.pack_cases h.broken h.log3 h.dead hl (by rw [h.room]; exact hr)
  obtain ⟨rfl, hfu⟩ := L.base.calm h.fuse
  rw [if_pos rfl] at e
  have hd := L.done rfl
  refine ⟨_, e, ⟨L.base.log3, L.base.dead, hfu, rfl, L.base.room.trans h.room, ?_, ?_, by simp⟩, ?_, ?_, rfl⟩
  · show l.seq = _; rw [h.seq]; simp
  · show (d'.old sLog).b = _; rw [old_none' hd.2.2]; rfl
  · have := L.base.used; rw [frameB_length] at this; exact this
  · show d'.look sSnap = _; rw [hd.1, frameB_length]
end Go.Proofs.YtdabflkejhoghaaGreat.Hand
