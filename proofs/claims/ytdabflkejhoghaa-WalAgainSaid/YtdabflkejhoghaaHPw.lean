/- WalAgain: the plain law, second part. -/
import Derived.Test.YtdabflkejhoghaaHPu
import Derived.Test.YtdabflkejhoghaaHPt
open Go
namespace Go.Proofs.Ytdabflkejhoghaa.Hand
set_option linter.unusedVariables false
/-- a log that is appended to, with no fuse and no state -/
structure Ag0 (L : List (List UInt8)) (k : Nat) (l : Lg) : Prop where
  live : Live L 0 0 k l
  fuse : l.d.fuse = none
  snap : l.d.look sSnap = none
theorem Ag0.start (L : List (List UInt8)) : Ag0 L 0 ⟨Dk.new 20000, 0, false⟩ := by
  have h := Live.start L (-1)
  have e : (Dk.new 20000).setFuse (-1) = Dk.new 20000 := by simp [Dk.setFuse, Dk.new]
  rw [e] at h
  exact ⟨h, rfl, rfl⟩
theorem Ag0.step {L : List (List UInt8)} {k : Nat} {l : Lg} (h : Ag0 L k l) (hk : k < L.length) (hL : L.length ≤ 12) (ht : total L ≤ 300) : ∃ l', l.append L[k] = (l', 0) ∧ Ag0 L (k + 1) l' := by
  have hlen := total_mem (List.getElem_mem hk)
  have hle := total_take_le L k
  have hu := h.live.used
  obtain ⟨d', ok, G, e⟩ := Lg.append_cases h.live.broken h.live.log3 h.live.dead (b := L[k]) (by omega) (by rw [h.live.room]; omega)
  obtain ⟨rfl, hf⟩ := G.base.calm h.fuse
  rw [if_pos rfl] at e
  rcases h.live.append hk hL ht (by omega) with ⟨l', e', h'⟩ | ⟨l', e', _⟩
  · rw [e] at e'
    injection e' with e1 _
    subst e1
    exact ⟨_, e, h', hf, (G.other _ (Ne.symm ne3)).trans h.snap⟩
  · rw [e] at e'
    injection e' with _ e2
    omega
/-- the tail tells no next row -/
def CondT (L : List (List UInt8)) (tail : List UInt8) : Prop := (allB tail (L.length + 1)).1 = [] ∧ (L = [] → ∀ x, nextB tail ≠ some (0, x))
structure AgI (L : List (List UInt8)) (tail : List UInt8) (i : Nat) (d : Dk) : Prop where
  gn : Gn (500 + 500 * i) d
  dead : d.dead = false
  fuse : d.fuse = none
  tl : CondT L tail → Tl L tail (500 + 500 * i) d
theorem Ag0.tail {L : List (List UInt8)} {l : Lg} (h : Ag0 L L.length l) (hL : L.length ≤ 8) (ht : total L ≤ 300) {tail : List UInt8} (htl : tail.length ≤ 30) :
    ∃ d', l.d.append sLog tail = (d', true) ∧ AgI L tail 0 d' := by
  have hu := h.live.used
  rw [List.take_length] at hu
  have hlog := h.live.log
  rw [List.drop_zero, List.take_length] at hlog
  have hla := h.live.lasts
  obtain ⟨d', j, A⟩ := h.live.log3.append h.live.dead (nm := sLog) (.inr (.inl rfl)) (b := tail) (by rw [h.live.room]; omega)
  obtain ⟨rfl, hf⟩ := A.calm h.fuse
  have hfl := framesB_length L (0 + 1)
  have hsn : d'.look sSnap = none := (A.other _ (Ne.symm ne3)).trans h.snap
  have hb : (d'.old sLog).b = framesB 1 L ++ tail := by
    rw [old_some' A.look, List.take_length]
    show (l.d.old sLog).b ++ tail = _
    rw [hlog]
  have hus : used d'.files ≤ 500 + 500 * 0 := by rw [A.used]; omega
  have hfl1 : (framesB 1 L).length = 16 * L.length + total L := hfl
  refine ⟨d', by rw [A.res]; simp, ⟨A.log3, A.room.trans h.live.room, hus, hsn, ?_⟩, by rw [A.dead]; simp, hf, fun _ => ⟨A.log3, A.room.trans h.live.room, hus, hsn, tail, List.prefix_refl _, hb, ?_⟩⟩
  · rw [hb, List.length_append]; omega
  · rw [old_some' A.look]
    show _ ≤ (l.d.old sLog).lasts
    rw [hla, hlog]
    exact Nat.le_refl _
theorem AgI.round {L : List (List UInt8)} {tail : List UInt8} {i : Nat} {d : Dk} (h : AgI L tail i d) (hi : i ≤ 5) (hL : L.length ≤ 8) (ht : total L ≤ 300) (n keep : Int) : AgI L tail (i + 1) ((d.setFuse n).openD.d.crash keep) := by
  have hfl : (framesB 1 L).length = 16 * L.length + total L := framesB_length L 1
  have hd : (d.setFuse n).dead = false := by rw [(h.gn.log3.setFuse n).2.2.2]; exact h.dead
  refine ⟨?_, rfl, rfl, fun hc => ?_⟩
  · have := ((h.gn.fuse n).opened hd (by omega)).1.crash keep
    rw [show 500 + 500 * (i + 1) = 500 + 500 * i + 500 by omega]
    exact this
  · have := (((h.tl hc).fuse n).opened hd (fun x hx => by have := total_mem hx; omega) (by omega) (by omega) hc.1 hc.2).crash keep
    exact ⟨this.log3, this.room, by have := this.used; omega, this.snap, this.held⟩
theorem AgI.last {L : List (List UInt8)} {tail : List UInt8} {i : Nat} {d : Dk} (h : AgI L tail i d) (hi : i ≤ 5) (hL : L.length ≤ 8) (ht : total L ≤ 300) :
    ∃ d' rows q, d.openD = ⟨d', 0, [], rows, q⟩ ∧ q < 18446744073709551616 ∧ rows.length ≤ 500 ∧ (CondT L tail → rows = L ∧ (d'.old sLog).b.length = 16 * L.length + total L ∧ (d'.there sLog = true ∨ 16 * L.length + total L = 0)) := by
  have hg := h.gn
  have hu := hg.used
  have hfl : (framesB 1 L).length = 16 * L.length + total L := framesB_length L 1
  have key : ∃ d' rows q, d.openD = ⟨d', 0, [], rows, q⟩ ∧ q < 18446744073709551616 ∧ rows.length ≤ 500 := by
    obtain ⟨rest, hre⟩ : ∃ rest, behindB (d.old sLog).b 0 = rest := ⟨_, rfl⟩
    have hrl : rest.length ≤ 500 := by
      obtain ⟨j, j1, j2⟩ := behindB_suffix _ (d.old sLog).b 0 (Nat.le_refl _)
      rw [← hre, j2, List.length_drop]; have := hg.len; omega
    obtain ⟨rows, n, ha⟩ : ∃ rows n, allB rest (wrapN (0 + 1)) = (rows, n) := ⟨_, _, rfl⟩
    have hn := allB_le _ rest (wrapN (0 + 1)) (Nat.le_refl _)
    rw [ha] at hn
    simp only at hn
    rcases open_cases hg.log3 h.dead (state_none hg.snap) hre ha (by rw [hg.room]; omega) with ⟨_, e⟩ | ⟨_, d', ok, C, e⟩
    · exact ⟨_, _, _, e, by unfold wrapN; omega, by omega⟩
    · obtain ⟨rfl, _⟩ := C.base.calm h.fuse
      rw [if_pos rfl] at e
      exact ⟨_, _, _, e, by unfold wrapN; omega, by omega⟩
  obtain ⟨d', rows, q, e, hq, hr⟩ := key
  refine ⟨d', rows, q, e, hq, hr, fun hc => ?_⟩
  obtain ⟨t, h1, h2, h3⟩ := (h.tl hc).held
  rcases open_tail hg.log3 h.dead hg.snap h2 (fun x hx => by have := total_mem hx; omega) (by omega) (allB_prefix h1 hc.1) (fun e => behindB_prefix0 h1 (hc.2 e)) (by rw [hg.room]; omega) with ⟨rfl, e2⟩ | ⟨_, d2, ok, C, e2⟩
  · rw [e] at e2
    injection e2 with e3 _ _ e4 _
    subst e3 e4
    rw [List.append_nil] at h2
    refine ⟨rfl, by rw [h2, hfl], ?_⟩
    cases hl : d'.look sLog with
    | none =>
      rw [old_none' hl] at h2
      have : (framesB 1 rows).length = 0 := by rw [← h2]; rfl
      right; omega
    | some f => left; unfold Dk.there; rw [hl]; rfl
  · obtain ⟨rfl, _⟩ := C.base.calm h.fuse
    rw [if_pos rfl, e] at e2
    injection e2 with e3 _ _ e4 _
    subst e3 e4
    obtain ⟨c1, c2⟩ := C.done rfl
    by_cases h0 : 0 < (framesB 1 rows).length
    · refine ⟨rfl, ?_, .inl ?_⟩
      · rw [old_some' (c1 h0)]
        simp only [List.length_take, List.length_append]; omega
      · unfold Dk.there; rw [c1 h0]; rfl
    · refine ⟨rfl, ?_, .inr (by omega)⟩
      rw [old_none' (c2 (by omega))]
      show 0 = _
      omega
end Go.Proofs.Ytdabflkejhoghaa.Hand
