/- The plain model of a disk: its acts, and what they keep. -/
import Derived.Test.YtdabflkejhoghaaHDkp
open Go
namespace Go.Proofs.Ytdabflkejhoghaa.Hand
set_option linter.unusedVariables false
def used (l : List F) : Nat := (l.map fun f => f.b.length).sum
theorem used_cons (f : F) (l : List F) : used (f :: l) = f.b.length + used l := by simp [used]
theorem used_append (l l' : List F) : used (l ++ l') = used l + used l' := by simp [used]
theorem used_ins (x : F) : ∀ l : List F, used (insBy F.name x l) = x.b.length + used l
  | [] => by simp [insBy, used]
  | y :: r => by
    unfold insBy
    split
    · simp [used]
    · rw [used_cons, used_ins x r, used_cons]; omega
theorem used_del_old {k : List UInt8} {x : F} {l : List F} (h : Rising F.name l) (hx : lookBy F.name k l = some x) : used (delBy F.name k l) + x.b.length = used l := by
  obtain ⟨p, q, rfl, e, hp, hq⟩ := split_of_look h hx
  rw [delBy_split e hp hq, used_append, used_append, used_cons]; omega
theorem used_del_le (k : List UInt8) : ∀ l : List F, used (delBy F.name k l) ≤ used l
  | [] => by simp [delBy, used]
  | y :: r => by
    have := used_del_le k r
    unfold delBy at this ⊢
    rw [List.filter_cons, used_cons]
    split
    · rw [used_cons]; omega
    · omega
theorem used_put (x : F) (l : List F) : used (putBy F.name x l) = x.b.length + used (delBy F.name x.name l) := used_ins _ _
theorem used_mem {f : F} : ∀ {l : List F}, f ∈ l → f.b.length ≤ used l
  | y :: r, h => by
    rw [used_cons]
    rcases List.mem_cons.1 h with rfl | h
    · omega
    · have := used_mem h; omega

def named (nm : List UInt8) : Bool := decide (1 ≤ nm.length) && decide (nm.length ≤ 20)
def Dk.look (d : Dk) (nm : List UInt8) : Option F := lookBy F.name nm d.files
def Dk.there (d : Dk) (nm : List UInt8) : Bool := (d.look nm).isSome
def Dk.step (d : Dk) : Dk × Bool :=
  if d.dead = true ∨ d.fuse = some 0 then (⟨d.files, d.room, d.fuse, true⟩, false) else (⟨d.files, d.room, d.fuse.map (· - 1), false⟩, true)
def Dk.refuses (d : Dk) (nm : List UInt8) (m : Nat) : Bool :=
  d.dead || (!named nm || (decide (d.room < used d.files + m) || (!d.there nm && decide (8 ≤ d.files.length))))
def Dk.burn (d : Dk) (m : Nat) : Nat := match d.fuse with | none => m | some k => min k m
theorem Dk.burn_le (d : Dk) (m : Nat) : d.burn m ≤ m := by unfold Dk.burn; split <;> omega
def Dk.old (d : Dk) (nm : List UInt8) : F := (d.look nm).getD ⟨nm, [], 0⟩
def Dk.appended (d : Dk) (nm b : List UInt8) : Dk :=
  ⟨putBy F.name ⟨nm, (d.old nm).b ++ b.take (d.burn b.length), (d.old nm).lasts⟩ d.files, d.room, d.fuse.map (· - d.burn b.length), decide (d.burn b.length < b.length)⟩
def Dk.append (d : Dk) (nm b : List UInt8) : Dk × Bool :=
  if d.refuses nm b.length = true then (d, false) else (d.appended nm b, decide (d.burn b.length = b.length))
def Dk.synced (d : Dk) (f : F) : Dk := ⟨putBy F.name ⟨f.name, f.b, f.b.length⟩ d.files, d.room, d.fuse, d.dead⟩
def Dk.sync (d : Dk) (nm : List UInt8) : Dk × Bool :=
  match d.look nm with
  | none => (d, false)
  | some f => if d.step.2 = true then (d.step.1.synced f, true) else (d.step.1, false)
def Dk.moved (d : Dk) (f : F) (to : List UInt8) : Dk := ⟨putBy F.name ⟨to, f.b, f.lasts⟩ (delBy F.name f.name d.files), d.room, d.fuse, d.dead⟩
def Dk.rename (d : Dk) (fr to : List UInt8) : Dk × Bool :=
  match d.look fr with
  | none => (d, false)
  | some f => if named to = false then (d, false) else if d.step.2 = true then (d.step.1.moved f to, true) else (d.step.1, false)
def Dk.dropped (d : Dk) (nm : List UInt8) : Dk := ⟨delBy F.name nm d.files, d.room, d.fuse, d.dead⟩
def Dk.drop (d : Dk) (nm : List UInt8) : Dk × Bool :=
  match d.look nm with
  | none => (d, false)
  | some _ => if d.step.2 = true then (d.step.1.dropped nm, true) else (d.step.1, false)
def Dk.setFuse (d : Dk) (n : Int) : Dk := if d.dead = true then d else ⟨d.files, d.room, if 0 ≤ n then some n.toNat else none, false⟩
def crashL : Nat → List F → List F
  | _, [] => []
  | k, f :: r => ⟨f.name, f.b.take (f.lasts + min (f.b.length - f.lasts) k), f.lasts + min (f.b.length - f.lasts) k⟩ :: crashL (k - min (f.b.length - f.lasts) k) r
def Dk.crash (d : Dk) (keep : Int) : Dk := ⟨crashL keep.toNat d.files, d.room, none, false⟩
def Dk.new (room : Int) : Dk := ⟨[], (max 0 (min room 1048576)).toNat, none, false⟩
/-- what lasts of a file -/
def F.last (f : F) : List UInt8 := f.b.take f.lasts

structure Dk.Ok (d : Dk) : Prop where
  rising : Rising F.name d.files
  names : ∀ f ∈ d.files, named f.name = true
  lasts : ∀ f ∈ d.files, f.lasts ≤ f.b.length
  used : used d.files ≤ d.room
  room : d.room ≤ 1048576
  few : d.files.length ≤ 8

theorem named_le {nm : List UInt8} (h : named nm = true) : 1 ≤ nm.length ∧ nm.length ≤ 20 := by simpa [named] using h

theorem Dk.Ok.step {d : Dk} (h : d.Ok) : d.step.1.Ok := by
  unfold Dk.step
  split <;> exact ⟨h.rising, h.names, h.lasts, h.used, h.room, h.few⟩
theorem Dk.step_files (d : Dk) : d.step.1.files = d.files := by unfold Dk.step; split <;> rfl
theorem Dk.step_room (d : Dk) : d.step.1.room = d.room := by unfold Dk.step; split <;> rfl
theorem Dk.look_mem {d : Dk} {nm : List UInt8} {f : F} (h : d.look nm = some f) : f ∈ d.files ∧ f.name = nm := lookBy_mem h

theorem Dk.Ok.append {d : Dk} (h : d.Ok) (nm b : List UInt8) : (d.append nm b).1.Ok := by
  unfold Dk.append
  split
  · exact h
  · rename_i hr
    have hr' : d.dead = false ∧ named nm = true ∧ ¬ d.room < Hand.used d.files + b.length ∧ (d.there nm = false → ¬ 8 ≤ d.files.length) := by
      simpa [Dk.refuses, Decidable.imp_iff_not_or] using hr
    obtain ⟨_, hn, hu, hf⟩ := hr'
    have hb := d.burn_le b.length
    have hold : (d.old nm).lasts ≤ (d.old nm).b.length := by
      unfold Dk.old
      cases hl : d.look nm with
      | none => simp
      | some f => exact h.lasts f (Dk.look_mem hl).1
    refine ⟨h.rising.put, ?_, ?_, ?_, h.room, ?_⟩
    · intro f hfm
      rcases mem_putBy hfm with rfl | hm
      · exact hn
      · exact h.names f hm
    · intro f hfm
      rcases mem_putBy hfm with rfl | hm
      · show (d.old nm).lasts ≤ ((d.old nm).b ++ b.take (d.burn b.length)).length
        simp; omega
      · exact h.lasts f hm
    · show Hand.used (putBy F.name ⟨nm, (d.old nm).b ++ b.take (d.burn b.length), (d.old nm).lasts⟩ d.files) ≤ d.room
      rw [used_put]
      have : ((d.old nm).b ++ b.take (d.burn b.length)).length ≤ (d.old nm).b.length + b.length := by simp; omega
      show ((d.old nm).b ++ b.take (d.burn b.length)).length + Hand.used (delBy F.name nm d.files) ≤ d.room
      have h2 : (d.old nm).b.length + Hand.used (delBy F.name nm d.files) ≤ Hand.used d.files := by
        unfold Dk.old
        cases hl : d.look nm with
        | none => simpa using used_del_le nm d.files
        | some f => have := used_del_old h.rising hl; simp; omega
      omega
    · show (putBy F.name ⟨nm, (d.old nm).b ++ b.take (d.burn b.length), (d.old nm).lasts⟩ d.files).length ≤ 8
      cases hl : d.look nm with
      | none =>
        rw [length_putBy_new (nm := F.name) (x' := ⟨nm, _, _⟩) hl]
        have := hf (by simp [Dk.there, hl])
        omega
      | some f =>
        rw [length_putBy_old (nm := F.name) (x' := ⟨nm, _, _⟩) h.rising hl]
        exact h.few

theorem Dk.Ok.synced {d : Dk} (h : d.Ok) {f : F} {nm : List UInt8} (hf : d.look nm = some f) : (d.synced f).Ok := by
  obtain ⟨hm, rfl⟩ := Dk.look_mem hf
  have hu := used_del_old h.rising hf
  refine ⟨h.rising.put, ?_, ?_, ?_, h.room, ?_⟩
  · intro g hg
    rcases mem_putBy hg with rfl | hg
    · exact h.names f hm
    · exact h.names g hg
  · intro g hg
    rcases mem_putBy hg with rfl | hg
    · exact Nat.le_refl _
    · exact h.lasts g hg
  · show Hand.used (putBy F.name ⟨f.name, f.b, f.b.length⟩ d.files) ≤ d.room
    rw [used_put]
    have := h.used
    show f.b.length + Hand.used (delBy F.name f.name d.files) ≤ d.room
    omega
  · show (putBy F.name ⟨f.name, f.b, f.b.length⟩ d.files).length ≤ 8
    rw [length_putBy_old (nm := F.name) (x' := ⟨f.name, f.b, f.b.length⟩) h.rising hf]
    exact h.few

theorem Dk.look_step (d : Dk) (nm : List UInt8) : d.step.1.look nm = d.look nm := by unfold Dk.look; rw [d.step_files]

theorem Dk.Ok.sync {d : Dk} (h : d.Ok) (nm : List UInt8) : (d.sync nm).1.Ok := by
  unfold Dk.sync
  split
  · exact h
  · rename_i f hf
    split
    · exact h.step.synced (nm := nm) (by rw [d.look_step, hf])
    · exact h.step

theorem Dk.Ok.dropped {d : Dk} (h : d.Ok) (nm : List UInt8) : (d.dropped nm).Ok :=
  ⟨h.rising.del _, fun f hf => h.names f (mem_delBy.1 hf).1, fun f hf => h.lasts f (mem_delBy.1 hf).1, Nat.le_trans (used_del_le _ _) h.used, h.room, Nat.le_trans (List.length_filter_le _ _) h.few⟩

theorem Dk.Ok.drop {d : Dk} (h : d.Ok) (nm : List UInt8) : (d.drop nm).1.Ok := by
  unfold Dk.drop
  split
  · exact h
  · split
    · exact h.step.dropped nm
    · exact h.step

theorem Dk.Ok.moved {d : Dk} (h : d.Ok) {f : F} {fr to : List UInt8} (hf : d.look fr = some f) (hto : named to = true) : (d.moved f to).Ok := by
  obtain ⟨hm, rfl⟩ := Dk.look_mem hf
  have hu := used_del_old h.rising hf
  have hd := h.dropped f.name
  have hl : (delBy F.name f.name d.files).length + 1 = d.files.length := length_delBy_old h.rising hf
  refine ⟨Rising.put (h.rising.del _), ?_, ?_, ?_, h.room, ?_⟩
  · intro g hg
    rcases mem_putBy hg with rfl | hg
    · exact hto
    · exact hd.names g hg
  · intro g hg
    rcases mem_putBy hg with rfl | hg
    · exact h.lasts f hm
    · exact hd.lasts g hg
  · show Hand.used (putBy F.name ⟨to, f.b, f.lasts⟩ (delBy F.name f.name d.files)) ≤ d.room
    rw [used_put]
    have := h.used
    have h3 := used_del_le to (delBy F.name f.name d.files)
    show f.b.length + Hand.used (delBy F.name to (delBy F.name f.name d.files)) ≤ d.room
    omega
  · show (putBy F.name ⟨to, f.b, f.lasts⟩ (delBy F.name f.name d.files)).length ≤ 8
    have := h.few
    cases hx : lookBy F.name to (delBy F.name f.name d.files) with
    | none => rw [length_putBy_new (nm := F.name) (x' := ⟨to, _, _⟩) hx]; omega
    | some x => rw [length_putBy_old (nm := F.name) (x' := ⟨to, _, _⟩) (h.rising.del _) hx]; omega

theorem Dk.Ok.rename {d : Dk} (h : d.Ok) (fr to : List UInt8) : (d.rename fr to).1.Ok := by
  unfold Dk.rename
  split
  · exact h
  · rename_i f hf
    split
    · exact h
    · rename_i hn
      split
      · exact h.step.moved (fr := fr) (by rw [d.look_step, hf]) (by simpa using hn)
      · exact h.step

theorem Dk.Ok.setFuse {d : Dk} (h : d.Ok) (n : Int) : (d.setFuse n).Ok := by
  unfold Dk.setFuse
  split
  · exact h
  · exact ⟨h.rising, h.names, h.lasts, h.used, h.room, h.few⟩

theorem crashL_names : ∀ (k : Nat) (l : List F), (crashL k l).map F.name = l.map F.name
  | _, [] => rfl
  | k, f :: r => by simp [crashL, crashL_names _ r]
theorem crashL_length (k : Nat) (l : List F) : (crashL k l).length = l.length := by
  have := congrArg List.length (crashL_names k l); simpa using this
theorem crashL_used : ∀ (k : Nat) (l : List F), used (crashL k l) ≤ used l
  | _, [] => Nat.le_refl _
  | k, f :: r => by
    have := crashL_used (k - min (f.b.length - f.lasts) k) r
    simp only [crashL, used_cons, List.length_take]
    omega
theorem crashL_lasts : ∀ (k : Nat) (l : List F), (∀ f ∈ l, f.lasts ≤ f.b.length) → ∀ f ∈ crashL k l, f.lasts = f.b.length
  | _, [], _ => by simp [crashL]
  | k, g :: r, h => by
    intro f hf
    simp only [crashL, List.mem_cons] at hf
    rcases hf with rfl | hf
    · have := h g (by simp)
      simp only [List.length_take]
      omega
    · exact crashL_lasts _ r (fun f hf => h f (by simp [hf])) f hf
theorem rising_names {l l' : List F} (h : l'.map F.name = l.map F.name) (hr : Rising F.name l) : Rising F.name l' := by
  have : (l.map F.name).Pairwise fun a b => bytesBefore a b = true := by rw [List.pairwise_map]; exact hr
  rw [← h, List.pairwise_map] at this
  exact this
theorem Dk.Ok.crash {d : Dk} (h : d.Ok) (keep : Int) : (d.crash keep).Ok := by
  have hn := crashL_names keep.toNat d.files
  refine ⟨rising_names hn h.rising, ?_, fun f hf => Nat.le_of_eq (crashL_lasts _ _ h.lasts f hf), Nat.le_trans (crashL_used _ _) h.used, h.room, ?_⟩
  · intro f hf
    have : f.name ∈ d.files.map F.name := by rw [← hn]; exact List.mem_map_of_mem hf
    obtain ⟨g, hg, e⟩ := List.mem_map.1 this
    rw [← e]; exact h.names g hg
  · show (crashL keep.toNat d.files).length ≤ 8
    rw [crashL_length]; exact h.few
theorem Dk.Ok.new (room : Int) : (Dk.new room).Ok := by
  refine ⟨List.Pairwise.nil, by simp [Dk.new], by simp [Dk.new], by simp [Dk.new, Hand.used], ?_, by simp [Dk.new]⟩
  show (max 0 (min room 1048576)).toNat ≤ 1048576
  omega
end Go.Proofs.Ytdabflkejhoghaa.Hand
