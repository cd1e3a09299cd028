/- WalFull: the plain law. -/
import Derived.Test.YtdabflkejhoghaaHQa
open Go
namespace Go.Proofs.Ytdabflkejhoghaa.Hand
set_option linter.unusedVariables false
theorem total_rep (b : List UInt8) : ∀ s, total (List.replicate s b) = s * b.length
  | 0 => by simp [total]
  | s + 1 => by rw [List.replicate_succ, total_cons, total_rep b s, Nat.succ_mul]; omega
theorem frames_rep (b : List UInt8) (q s : Nat) : (framesB q (List.replicate s b)).length = s * (16 + b.length) := by
  rw [framesB_length, total_rep, List.length_replicate, Nat.mul_add, Nat.mul_comm]
/-- a log of some room, behind i tries to append b -/
structure FullI (room : Nat) (b : List UInt8) (i s : Nat) (l : Lg) : Prop where
  calm : Calm l room 0 (List.replicate s b)
  used : used l.d.files ≤ s * (16 + b.length)
  some : s = min i (room / (16 + b.length))
  snap : l.d.look sSnap = none
theorem FullI.start (room : Nat) (b : List UInt8) (hr : room ≤ 1048576) : FullI room b 0 0 ⟨Dk.new room, 0, false⟩ := by
  refine ⟨?_, by simp [Dk.new, Hand.used], by simp, rfl⟩
  have h := Calm.new (room : Int)
  have e : (max 0 (min (room : Int) 1048576)).toNat = room := by omega
  rw [e] at h
  exact h
theorem FullI.step {room : Nat} {b : List UInt8} {i s : Nat} {l : Lg} (h : FullI room b i s l) (hr : room ≤ 1048576) (hb : b.length ≤ 65536) :
    (∃ l', l.append b = (l', 0) ∧ FullI room b (i + 1) (s + 1) l') ∨ (l.append b = (l, 21) ∧ FullI room b (i + 1) s l) := by
  have hT : 0 < 16 + b.length := by omega
  have hlog := used_old h.calm.log3 sLog
  rw [h.calm.log, frames_rep] at hlog
  have hsm : s ≤ room / (16 + b.length) := by rw [h.some]; omega
  have hsr : s * (16 + b.length) ≤ room := Nat.le_trans (Nat.mul_le_mul_right _ hsm) (Nat.div_mul_le_self _ _)
  have hs2 : s ≤ room := Nat.le_trans (Nat.le_mul_of_pos_right s hT) hsr
  by_cases hf : s < room / (16 + b.length)
  · left
    have hfit : (s + 1) * (16 + b.length) ≤ room := Nat.le_trans (Nat.mul_le_mul_right _ hf) (Nat.div_mul_le_self _ _)
    rw [Nat.succ_mul] at hfit
    obtain ⟨l', h1, h2, h3, h4, h5⟩ := h.calm.append (b := b) hb (by have := h.used; omega) (by simp; omega)
    refine ⟨l', h1, ?_, ?_, ?_, h4.trans h.snap⟩
    · rw [List.replicate_succ']; exact h2
    · have := h.used; rw [Nat.succ_mul]; omega
    · have := h.some; omega
  · right
    have hse : s = room / (16 + b.length) := by omega
    have hno : room < (s + 1) * (16 + b.length) := by
      rw [hse]; have := Nat.lt_div_mul_add (a := room) hT; rw [Nat.succ_mul]; omega
    rw [Nat.succ_mul] at hno
    refine ⟨Lg.append_full h.calm.broken h.calm.log3 h.calm.dead hb (by rw [h.calm.room]; omega), h.calm, h.used, ?_, h.snap⟩
    have := h.some; omega
theorem FullI.open {room : Nat} {b : List UInt8} {i s : Nat} {l : Lg} (h : FullI room b i s l) (hi : i ≤ 20) : l.d.openD = ⟨l.d, 0, [], List.replicate s b, s⟩ := by
  have hs : s ≤ 20 := by have := h.some; omega
  have := h.calm.open (state_none h.snap) (by simp; omega)
  simpa using this
end Go.Proofs.Ytdabflkejhoghaa.Hand
