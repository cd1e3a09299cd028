/- DiskNames, in plain words: files named by six letters, appended to in turn. -/
import Derived.Test.YtdabflkejhoghaaHPl
namespace Go.Proofs.Ytdabflkejhoghaa.Hand
open Go
set_option linter.unusedVariables false
def nmj (j : Nat) : List UInt8 := [102, 97 + UInt8.ofNat j]
theorem nmj_ne {i j : Nat} (hi : i < 6) (hj : j < 6) (h : i ≠ j) : nmj i ≠ nmj j := by
  unfold nmj
  match i, j, hi, hj with
  | 0, 0, _, _ | 1, 1, _, _ | 2, 2, _, _ | 3, 3, _, _ | 4, 4, _, _ | 5, 5, _, _ => exact absurd rfl h
  | 0, 1, _, _ | 0, 2, _, _ | 0, 3, _, _ | 0, 4, _, _ | 0, 5, _, _ => decide
  | 1, 0, _, _ | 1, 2, _, _ | 1, 3, _, _ | 1, 4, _, _ | 1, 5, _, _ => decide
  | 2, 0, _, _ | 2, 1, _, _ | 2, 3, _, _ | 2, 4, _, _ | 2, 5, _, _ => decide
  | 3, 0, _, _ | 3, 1, _, _ | 3, 2, _, _ | 3, 4, _, _ | 3, 5, _, _ => decide
  | 4, 0, _, _ | 4, 1, _, _ | 4, 2, _, _ | 4, 3, _, _ | 4, 5, _, _ => decide
  | 5, 0, _, _ | 5, 1, _, _ | 5, 2, _, _ | 5, 3, _, _ | 5, 4, _, _ => decide
def nzs (cs : List Nat) : Nat := (cs.filter fun c => decide (0 < c)).length
theorem nzs_le (cs : List Nat) : nzs cs ≤ cs.length := List.length_filter_le _ _
theorem nzs_set : ∀ (cs : List Nat) (j : Nat) (hj : j < cs.length), nzs (cs.set j (cs[j] + 1)) = nzs cs + if 0 < cs[j] then 0 else 1
  | c :: cs, 0, _ => by
    unfold nzs
    simp only [List.set_cons_zero, List.getElem_cons_zero, List.filter_cons]
    by_cases h : 0 < c <;> simp [h]
  | c :: cs, j + 1, hj => by
    have ih := nzs_set cs j (by simpa using hj)
    unfold nzs at ih ⊢
    simp only [List.set_cons_succ, List.getElem_cons_succ, List.filter_cons]
    by_cases h : 0 < c <;> simp [h] <;> omega
/-- what holds of the disk, and of what was counted -/
structure NI (d : Dk) (L k : Nat) (cs : List Nat) : Prop where
  ok : d.Ok
  six : cs.length = 6
  room : d.room = 1048576
  fuse : d.fuse = none
  dead : d.dead = false
  used : used d.files = k * L
  few : d.files.length = nzs cs
  le : ∀ c ∈ cs, c ≤ k
  none : ∀ j (hj : j < cs.length), cs[j] = 0 → d.look (nmj j) = Option.none
  some : ∀ j (hj : j < cs.length), 0 < cs[j] → ∃ f, d.look (nmj j) = Option.some f ∧ f.b.length = cs[j] * L
theorem NI.start (L : Nat) : NI (Dk.new 1048576) L 0 [0, 0, 0, 0, 0, 0] := by
  refine ⟨Dk.Ok.new _, rfl, rfl, rfl, rfl, by simp [Dk.new, Hand.used], rfl, by simp, fun j _ _ => by simp [Dk.new, Dk.look, lookBy], fun j hj h => ?_⟩
  match j, hj, h with
  | 0, _, h | 1, _, h | 2, _, h | 3, _, h | 4, _, h | 5, _, h => simp at h
theorem NI.old_len {d : Dk} {L k : Nat} {cs : List Nat} (h : NI d L k cs) {j : Nat} (hj : j < cs.length) : (d.old (nmj j)).b.length = cs[j] * L ∧ d.there (nmj j) = decide (0 < cs[j]) := by
  by_cases h0 : cs[j] = 0
  · have hn := h.none j hj h0
    unfold Dk.old Dk.there
    rw [hn, h0]
    simp
  · obtain ⟨f, hf, hl⟩ := h.some j hj (by omega)
    unfold Dk.old Dk.there
    rw [hf]
    simp [hl]; omega
theorem NI.append {d : Dk} {k : Nat} {cs : List Nat} {b : List UInt8} (h : NI d b.length k cs) {j : Nat} (hj : j < cs.length) (hL : b.length ≤ 50) (hk : k < 40) : ∃ d', d.append (nmj j) b = (d', true) ∧ NI d' b.length (k + 1) (cs.set j (cs[j] + 1)) := by
  have h6 := h.six
  have hnz := nzs_le cs
  have hmul : (k + 1) * b.length ≤ 2000 := Nat.le_trans (Nat.mul_le_mul (show k + 1 ≤ 40 by omega) hL) (by decide)
  have hmul2 : (k + 1) * b.length = k * b.length + b.length := Nat.succ_mul k b.length
  have hrf : d.refuses (nmj j) b.length = false := by
    unfold Dk.refuses
    rw [h.dead, h.room, h.used, h.few, show named (nmj j) = true from rfl, decide_eq_false (show ¬ 1048576 < k * b.length + b.length by omega), decide_eq_false (show ¬ 8 ≤ nzs cs by omega)]
    simp
  have hb : d.burn b.length = b.length := by unfold Dk.burn; rw [h.fuse]
  have hold := h.old_len hj
  have happ : d.append (nmj j) b = (d.appended (nmj j) b, true) := by
    unfold Dk.append; rw [hrf, if_neg (by simp), hb]; simp
  have hok : (d.appended (nmj j) b).Ok := by have := h.ok.append (nmj j) b; rw [happ] at this; exact this
  have ha : d.appended (nmj j) b = ⟨putBy F.name ⟨nmj j, (d.old (nmj j)).b ++ b, (d.old (nmj j)).lasts⟩ d.files, d.room, d.fuse.map (· - b.length), false⟩ := by
    unfold Dk.appended; rw [hb]; simp
  have hnew : ((d.old (nmj j)).b ++ b).length = (cs[j] + 1) * b.length := by rw [List.length_append, hold.1, Nat.succ_mul]
  refine ⟨_, happ, hok, by simp [h6], by rw [ha]; exact h.room, by rw [ha]; show d.fuse.map _ = _; rw [h.fuse]; rfl, by rw [ha], ?_, ?_, ?_, ?_, ?_⟩
  · rw [ha]
    show Hand.used (putBy F.name _ d.files) = _
    rw [used_put]
    show ((d.old (nmj j)).b ++ b).length + Hand.used (delBy F.name (nmj j) d.files) = _
    rw [List.length_append, hmul2, ← h.used]
    cases hl : d.look (nmj j) with
    | none =>
      have e1 : (d.old (nmj j)).b = [] := by unfold Dk.old; rw [hl]; rfl
      rw [e1, delBy_none hl]; simp; omega
    | some f =>
      have e1 : (d.old (nmj j)) = f := by unfold Dk.old; rw [hl]; rfl
      have e2 := used_del_old h.ok.rising hl
      rw [e1]; omega
  · rw [ha, nzs_set cs j hj, ← h.few]
    show (putBy F.name _ d.files).length = _
    by_cases h0 : cs[j] = 0
    · rw [length_putBy_new (nm := F.name) (x' := ⟨nmj j, _, _⟩) (h.none j hj h0), if_neg (by omega)]
    · obtain ⟨f, hf, _⟩ := h.some j hj (by omega)
      rw [length_putBy_old (nm := F.name) (x' := ⟨nmj j, _, _⟩) h.ok.rising hf, if_pos (by omega)]; rfl
  · intro c hc
    rcases List.mem_or_eq_of_mem_set hc with hc | hc
    · have := h.le c hc; omega
    · have := h.le cs[j] (List.getElem_mem _); omega
  · intro i hi h0
    have hi' : i < cs.length := by simpa using hi
    by_cases hij : j = i
    · subst hij; simp at h0
    · rw [List.getElem_set_ne hij] at h0
      rw [ha]
      show lookBy F.name (nmj i) (putBy F.name _ d.files) = _
      rw [look_put_other (by exact nmj_ne (by omega) (by omega) hij)]
      exact h.none i hi' h0
  · intro i hi h0
    have hi' : i < cs.length := by simpa using hi
    by_cases hij : j = i
    · subst hij
      refine ⟨⟨nmj j, (d.old (nmj j)).b ++ b, (d.old (nmj j)).lasts⟩, ?_, ?_⟩
      · rw [ha]; exact look_put_same' rfl
      · rw [List.getElem_set_self]; exact hnew
    · rw [List.getElem_set_ne hij] at h0
      obtain ⟨f, hf, hl⟩ := h.some i hi' h0
      refine ⟨f, ?_, by rw [List.getElem_set_ne hij]; exact hl⟩
      rw [ha]
      show lookBy F.name (nmj i) (putBy F.name _ d.files) = _
      rw [look_put_other (by exact nmj_ne (by omega) (by omega) hij)]
      exact hf
end Go.Proofs.Ytdabflkejhoghaa.Hand
