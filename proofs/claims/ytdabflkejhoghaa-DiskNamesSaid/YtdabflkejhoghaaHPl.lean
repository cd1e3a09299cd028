/- The plain law of a disk with one file. -/
import Derived.Test.YtdabflkejhoghaaHDn
namespace Go.Proofs.Ytdabflkejhoghaa.Hand
open Go
set_option linter.unusedVariables false
def one (R : Nat) (nm b : List UInt8) (l : Nat) (f : Option Nat) (dd : Bool) : Dk := ⟨[⟨nm, b, l⟩], R, f, dd⟩
def burnF (f : Option Nat) (m : Nat) : Nat := match f with | none => m | some k => min k m
theorem one_look (R : Nat) (nm b : List UInt8) (l : Nat) (f : Option Nat) (dd : Bool) : (one R nm b l f dd).look nm = some ⟨nm, b, l⟩ := by simp [one, Dk.look, lookBy]
theorem one_old (R : Nat) (nm b : List UInt8) (l : Nat) (f : Option Nat) (dd : Bool) : (one R nm b l f dd).old nm = ⟨nm, b, l⟩ := by simp [Dk.old, one_look]
theorem one_there (R : Nat) (nm b : List UInt8) (l : Nat) (f : Option Nat) (dd : Bool) : (one R nm b l f dd).there nm = true := by simp [Dk.there, one_look]
theorem one_append {R : Nat} {nm b c : List UInt8} {l : Nat} {f : Option Nat} (hn : named nm = true) (hr : b.length + c.length ≤ R) :
    (one R nm b l f false).append nm c = (one R nm (b ++ c.take (burnF f c.length)) l (f.map (· - burnF f c.length)) (decide (burnF f c.length < c.length)), decide (burnF f c.length = c.length)) := by
  have hrf : (one R nm b l f false).refuses nm c.length = false := by
    unfold Dk.refuses
    have hu : used (one R nm b l f false).files = b.length := by simp [one, used]
    have hR : (one R nm b l f false).room = R := rfl
    have hd : (one R nm b l f false).dead = false := rfl
    rw [hn, one_there, hu, hR, hd, decide_eq_false (by omega)]
    simp
  have hb : (one R nm b l f false).burn c.length = burnF f c.length := rfl
  unfold Dk.append
  rw [hrf, if_neg (by simp), hb]
  unfold Dk.appended
  rw [one_old, hb]
  simp [one, putBy, delBy, insBy]
theorem new_append {room : Int} {nm c : List UInt8} (hn : named nm = true) (hr : c.length ≤ (Dk.new room).room) : (Dk.new room).append nm c = (one (Dk.new room).room nm c 0 none false, true) := by
  have hl : (Dk.new room).look nm = none := by simp [Dk.new, Dk.look, lookBy]
  have hrf : (Dk.new room).refuses nm c.length = false := by
    unfold Dk.refuses
    have hu : used (Dk.new room).files = 0 := by simp [Dk.new, used]
    have hd : (Dk.new room).dead = false := rfl
    have hf : (Dk.new room).files.length = 0 := rfl
    rw [hn, hu, hd, hf, decide_eq_false (by omega)]
    simp
  have hb : (Dk.new room).burn c.length = c.length := rfl
  have ho : (Dk.new room).old nm = ⟨nm, [], 0⟩ := by unfold Dk.old; rw [hl]; rfl
  unfold Dk.append
  rw [hrf, if_neg (by simp), hb]
  unfold Dk.appended
  rw [ho, hb]
  simp [one, putBy, delBy, insBy, Dk.new]
theorem one_sync {R : Nat} {nm b : List UInt8} {l : Nat} {f : Option Nat} (h : f ≠ some 0) : (one R nm b l f false).sync nm = (one R nm b b.length (f.map (· - 1)) false, true) := by
  unfold Dk.sync
  rw [one_look]
  have hs : (one R nm b l f false).step = (one R nm b l (f.map (· - 1)) false, true) := by
    unfold Dk.step; rw [if_neg (by simp [one, h])]; rfl
  simp only [hs, if_true]
  simp [Dk.synced, one, putBy, delBy, insBy]
theorem one_sync_dead {R : Nat} {nm b : List UInt8} {l : Nat} {f : Option Nat} {dd : Bool} (h : dd = true ∨ f = some 0) : (one R nm b l f dd).sync nm = (one R nm b l f true, false) := by
  unfold Dk.sync
  rw [one_look]
  have hs : (one R nm b l f dd).step = (one R nm b l f true, false) := by
    unfold Dk.step; rw [if_pos (by simpa [one] using h)]; rfl
  simp only [hs]
  rfl
theorem one_fuse {R : Nat} {nm b : List UInt8} {l : Nat} {f : Option Nat} (n : Nat) : (one R nm b l f false).setFuse (n : Int) = one R nm b l (some n) false := by
  unfold Dk.setFuse
  rw [if_neg (by simp [one]), if_pos (by omega)]
  simp [one]
theorem one_fuse_none {R : Nat} {nm b : List UInt8} {l : Nat} {f : Option Nat} {n : Int} (h : n < 0) : (one R nm b l f false).setFuse n = one R nm b l none false := by
  unfold Dk.setFuse
  rw [if_neg (by simp [one]), if_neg (by omega)]
  rfl
theorem one_fuse_dead {R : Nat} {nm b : List UInt8} {l : Nat} {f : Option Nat} (n : Int) : (one R nm b l f true).setFuse n = one R nm b l f true := by
  unfold Dk.setFuse; rw [if_pos (by rfl)]
theorem one_crash {R : Nat} {nm b : List UInt8} {l : Nat} {f : Option Nat} {dd : Bool} (k : Int) : (one R nm b l f dd).crash k = one R nm (b.take (l + min (b.length - l) k.toNat)) (l + min (b.length - l) k.toNat) none false := by
  simp [Dk.crash, one, crashL]
/-- DiskLasts, in plain words -/
theorem lasts_law {a b : List UInt8} {fu ke : Nat} (h : a.length + b.length ≤ 300) :
    ∃ n, n = min (min b.length fu) ke ∧ ∃ d1 d2 d3 d4 d5,
      (Dk.new 1000).append [120] a = (d1, true) ∧ d1.sync [120] = (d2, true) ∧ d2.setFuse (fu : Int) = d3 ∧ d3.append [120] b = (d4, decide (b.length ≤ fu)) ∧ d4.crash (ke : Int) = d5 ∧
      d5.there [120] = true ∧ (d5.old [120]).b = a ++ b.take n ∧ (d5.old [120]).last = a ++ b.take n ∧ d5.dead = false := by
  have e := one_append (R := 1000) (nm := [120]) (b := a) (c := b) (l := a.length) (f := some fu) (by rfl) (by omega)
  have e2 : decide (burnF (some fu) b.length = b.length) = decide (b.length ≤ fu) := by
    show decide (min fu b.length = b.length) = _
    exact decide_eq_decide.2 (by omega)
  rw [e2] at e
  have hbf : burnF (some fu) b.length = min fu b.length := rfl
  rw [hbf] at e
  refine ⟨_, rfl, _, _, _, _, _, new_append (by rfl) (by show a.length ≤ 1000; omega), one_sync (by simp), one_fuse fu, e, one_crash _, one_there _ _ _ _ _ _, ?_, ?_, rfl⟩
  · rw [one_old]
    show (a ++ b.take (min fu b.length)).take _ = _
    rw [List.take_append]
    simp only [List.length_append, List.length_take, Int.toNat_natCast]
    rw [List.take_of_length_le (by omega), List.take_take]
    congr 2
    try rw [Nat.min_self]
    omega
  · unfold F.last
    rw [one_old]
    show ((a ++ b.take (min fu b.length)).take _).take _ = _
    rw [List.take_take, List.take_append]
    simp only [List.length_append, List.length_take, Int.toNat_natCast]
    rw [List.take_of_length_le (by omega), List.take_take]
    congr 2
    try rw [Nat.min_self]
    omega
end Go.Proofs.Ytdabflkejhoghaa.Hand
