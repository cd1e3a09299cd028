/- A log that is appended to, row by row: the plain law. -/
import Derived.Test.YtdabflkejhoghaaGreatHQa
open Go
namespace Go.Proofs.YtdabflkejhoghaaGreat.Hand
set_option linter.unusedVariables false
theorem total_take (L : List (List UInt8)) (k : Nat) (hk : k < L.length) : total (L.take (k + 1)) = total (L.take k) + L[k].length := by
  rw [List.take_succ_eq_append_getElem hk, total_app]; simp [total]
theorem total_take_le (L : List (List UInt8)) (k : Nat) : total (L.take k) ≤ total L := by
  have h : total L = total (L.take k) + total (L.drop k) := by rw [← total_app, List.take_append_drop]
  omega
theorem total_mem : ∀ {L : List (List UInt8)} {x : List UInt8}, x ∈ L → x.length ≤ total L
  | y :: L, x, h => by
    rw [total_cons]
    rcases List.mem_cons.1 h with rfl | h
    · omega
    · have := total_mem h; omega
structure RunI (room base : Nat) (S : Option F) (U : Nat) (L : List (List UInt8)) (k : Nat) (l : Lg) : Prop where
  calm : Calm l room base (L.take k)
  used : used l.d.files ≤ U + (16 * k + total (L.take k))
  snap : l.d.look sSnap = S
theorem RunI.step {room base : Nat} {S : Option F} {U : Nat} {L : List (List UInt8)} {k : Nat} {l : Lg} (h : RunI room base S U L k l) (hk : k < L.length) (hL : L.length ≤ 12) (ht : total L ≤ 300) (hr : U + 600 ≤ room) (hb : base ≤ 1000) :
    ∃ l', l.append L[k] = (l', 0) ∧ RunI room base S U L (k + 1) l' := by
  have hlen := total_mem (List.getElem_mem hk)
  have htk := total_take L k hk
  have hle := total_take_le L (k + 1)
  have hu := h.used
  obtain ⟨l', h1, h2, h3, h4, h5⟩ := h.calm.append (b := L[k]) (by omega) (by omega) (by simp; omega)
  refine ⟨l', h1, ?_, ?_, h4.trans h.snap⟩
  · rw [List.take_succ_eq_append_getElem hk]; exact h2
  · omega
theorem RunI.start (L : List (List UInt8)) : RunI 20000 0 none 0 L 0 ⟨Dk.new 20000, 0, false⟩ := by
  refine ⟨?_, by simp [Dk.new, Hand.used, total], rfl⟩
  have h := Calm.new 20000
  have e : (max 0 (min (20000 : Int) 1048576)).toNat = 20000 := by decide
  rw [e] at h
  simpa using h
theorem RunI.all {room base : Nat} {S : Option F} {U : Nat} {L : List (List UInt8)} {l : Lg} (h : RunI room base S U L L.length l) : Calm l room base L := by
  have := h.calm; rwa [List.take_length] at this
/-- a packing -/
theorem RunI.pack {room base : Nat} {S : Option F} {U : Nat} {L : List (List UInt8)} {l : Lg} (h : RunI room base S U L L.length l) {s : List UInt8} (M : List (List UInt8)) (hL : L.length ≤ 12) (ht : total L ≤ 300) (hs : s.length ≤ 400) (hr : U + 1200 ≤ room) (hb : base ≤ 1000) :
    ∃ l', l.pack s = (l', 0) ∧ RunI room (base + L.length) (some ⟨sSnap, frameB (base + L.length) s, 16 + s.length⟩) (U + (16 * L.length + total L) + (16 + s.length)) M 0 l' := by
  have hc := h.all
  have hu := h.used
  rw [List.take_length] at hu
  obtain ⟨l', h1, h2, h3, h4, h5⟩ := hc.pack (b := s) (by omega) (by omega) (by omega)
  refine ⟨l', h1, by simpa using h2, ?_, ?_⟩
  · have e : total (M.take 0) = 0 := by simp [total]
    omega
  · rw [h4, hc.seq]
theorem RunI.open {room base : Nat} {U : Nat} {L : List (List UInt8)} {l : Lg} {f : F} {s : List UInt8} (h : RunI room base (some f) U L L.length l) (hf : f.b = frameB base s) (hs : s.length ≤ 65536) (hL : L.length ≤ 12) (hb : base ≤ 1000) : l.d.openD = ⟨l.d, 0, s, L, base + L.length⟩ :=
  h.all.open (state_frame h.snap hf (by omega) hs) (by omega)
end Go.Proofs.YtdabflkejhoghaaGreat.Hand
