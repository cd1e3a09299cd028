/- WalLasts: the plain law. -/
import Derived.Test.YtdabflkejhoghaaHPk
open Go
namespace Go.Proofs.Ytdabflkejhoghaa.Hand
set_option linter.unusedVariables false
/-- rows, each with a bar behind it -/
def joinB : List (List UInt8) → List UInt8
  | [] => []
  | x :: l => x ++ 124 :: joinB l
theorem joinB_app : ∀ (l m : List (List UInt8)), joinB (l ++ m) = joinB l ++ joinB m
  | [], m => rfl
  | x :: l, m => by simp [joinB, joinB_app l m]
theorem joinB_length : ∀ (l : List (List UInt8)), (joinB l).length = total l + l.length
  | [] => rfl
  | x :: l => by simp only [joinB, List.length_append, List.length_cons, joinB_length l, total_cons]; omega
theorem take_drop_app (L : List (List UInt8)) {p k : Nat} (h : p ≤ k) : L.take p ++ (L.take k).drop p = L.take k := by
  have : L.take p = (L.take k).take p := by rw [List.take_take]; congr 1; omega
  rw [this, List.take_append_drop]
theorem joinB_take (L : List (List UInt8)) {p k : Nat} (h : p ≤ k) : joinB (L.take p) ++ joinB ((L.take k).drop p) = joinB (L.take k) := by
  rw [← joinB_app, take_drop_app L h]
theorem drop_split (L : List (List UInt8)) {s p k : Nat} (h : s ≤ p) (h2 : p ≤ k) : (L.take k).drop s = (L.take p).drop s ++ (L.take k).drop p := by
  rw [← take_drop_app L h2, List.drop_append, take_drop_app L h2]
  by_cases hp : p ≤ L.length
  · congr 1
    rw [List.length_take, show s - min p L.length = 0 by omega]; rfl
  · have : (L.take k).drop p = [] := List.drop_eq_nil_of_le (by simp; omega)
    rw [this]; simp
theorem drop_last (L : List (List UInt8)) {k : Nat} (hk : k < L.length) : (L.take (k + 1)).drop k = [L[k]] := by
  rw [List.take_succ_eq_append_getElem hk]
  have : (L.take k).length = k := by simp; omega
  exact List.drop_left' this
/-- what was said to be is there: the state up to row p, the log behind row s, a piece of the next -/
structure Rec (L : List (List UInt8)) (k : Nat) (d : Dk) : Prop where
  log3 : d.Log3
  room : d.room = 20000
  used : used d.files ≤ 5000
  le : k ≤ L.length
  held : ∃ p s t j, s ≤ p ∧ p ≤ k ∧ ((d.look sSnap = none ∧ p = 0) ∨ d.look sSnap = some ⟨sSnap, frameB p (joinB (L.take p)), (frameB p (joinB (L.take p))).length⟩) ∧
    (d.old sLog).b = framesB (s + 1) ((L.take k).drop s) ++ t ∧ (framesB (s + 1) ((L.take k).drop s)).length ≤ (d.old sLog).lasts ∧
    (t = [] ∨ ∃ h : k < L.length, t = (frameB (k + 1) L[k]).take j)
theorem Rec.crash {L : List (List UInt8)} {k : Nat} {d : Dk} (h : Rec L k d) (keep : Int) : Rec L k (d.crash keep) := by
  have C := h.log3.crash keep
  obtain ⟨p, s, t, j, h1, h2, h3, h4, h5, h6⟩ := h.held
  refine ⟨C.log3, C.room.trans h.room, Nat.le_trans C.used h.used, h.le, ?_⟩
  have hsnap : ((d.crash keep).look sSnap = none ∧ p = 0) ∨ (d.crash keep).look sSnap = some ⟨sSnap, frameB p (joinB (L.take p)), (frameB p (joinB (L.take p))).length⟩ := by
    rcases h3 with ⟨h3, e⟩ | h3
    · exact .inl ⟨C.none _ h3, e⟩
    · obtain ⟨n, n1, n2, n3⟩ := C.some _ _ h3
      have : n = (frameB p (joinB (L.take p))).length := by simp only at n1 n2; omega
      rw [this, List.take_length] at n3
      exact .inr n3
  cases hl : d.look sLog with
  | none =>
    rw [old_none' hl] at h4 h5
    refine ⟨p, s, t, j, h1, h2, hsnap, ?_, ?_, h6⟩
    · rw [old_none' (C.none _ hl)]; exact h4
    · rw [old_none' (C.none _ hl)]; exact h5
  | some f =>
    rw [old_some' hl] at h4 h5
    obtain ⟨n, n1, n2, n3⟩ := C.some _ _ hl
    have e := old_some' n3
    refine ⟨p, s, t.take (n - (framesB (s + 1) ((L.take k).drop s)).length), min (n - (framesB (s + 1) ((L.take k).drop s)).length) j, h1, h2, hsnap, ?_, ?_, ?_⟩
    · rw [e, h4, List.take_append, List.take_of_length_le (by omega)]
    · rw [e]; simp only; omega
    · rcases h6 with rfl | ⟨hk, rfl⟩
      · exact .inl (by simp)
      · exact .inr ⟨hk, by rw [List.take_take]⟩
theorem Rec.open {L : List (List UInt8)} {k : Nat} {d : Dk} (h : Rec L k d) (hd : d.dead = false) (hf : d.fuse = none) (hL : L.length ≤ 12) (ht : total L ≤ 300) :
    ∃ d' p q, d.openD = ⟨d', 0, joinB (L.take p), (L.take q).drop p, q⟩ ∧ p ≤ q ∧ k ≤ q ∧ q ≤ k + 1 ∧ q ≤ L.length := by
  obtain ⟨p, s, t, j, h1, h2, h3, h4, h5, h6⟩ := h.held
  have hk := h.le
  have hlen : ∀ x ∈ L, x.length ≤ 300 := fun x hx => Nat.le_trans (total_mem hx) ht
  have hlenS : ∀ (n m : Nat), ∀ x ∈ (L.take n).drop m, x.length ≤ 65536 := fun n m x hx => by
    have := hlen x (List.mem_of_mem_take (List.mem_of_mem_drop hx)); omega
  have hs : d.stateD = some (joinB (L.take p), p) := by
    rcases h3 with ⟨h3, rfl⟩ | h3
    · rw [state_none h3]; rfl
    · refine state_frame h3 rfl (by omega) ?_
      rw [joinB_length]
      have := total_take_le L p
      have : (L.take p).length ≤ L.length := by simp; omega
      omega
  -- what lies behind the state
  have hnext : t.length < 16 + (L.getD k []).length → nextB t = none := by
    intro hsh
    rcases h6 with rfl | ⟨hkl, rfl⟩
    · exact nextB_nil
    · have e : L.getD k [] = L[k] := by simp [hkl]
      rw [e] at hsh
      exact nextB_short (k + 1) L[k] _ (by have := hlen _ (List.getElem_mem hkl); omega) (List.take_prefix _ _) hsh
  have hwhole : ¬ t.length < 16 + (L.getD k []).length → ∃ hkl : k < L.length, t = frameB (k + 1) L[k] := by
    intro hsh
    rcases h6 with rfl | ⟨hkl, rfl⟩
    · simp at hsh
    · refine ⟨hkl, ?_⟩
      have e : L.getD k [] = L[k] := by simp [hkl]
      rw [e] at hsh
      apply List.take_of_length_le
      rw [List.length_take, frameB_length] at hsh
      rw [frameB_length]; omega
  have hA : ((L.take p).drop s).length = p - s := by simp; omega
  have hB : ((L.take k).drop p).length = k - p := by simp; omega
  have hbt : p = k → behindB t p = t := by
    intro e
    by_cases hsh : t.length < 16 + (L.getD k []).length
    · exact behindB_none (hnext hsh)
    · obtain ⟨hkl, e2⟩ := hwhole hsh
      have := nextB_frame (k + 1) L[k] [] (by omega) (by have := hlen _ (List.getElem_mem hkl); omega)
      rw [List.append_nil] at this
      rw [e2]
      exact behindB_other this (by omega)
  have hre : behindB (d.old sLog).b p = framesB (p + 1) ((L.take k).drop p) ++ t := by
    rw [h4, drop_split L h1 h2, framesB_app, hA, show s + 1 + (p - s) = p + 1 by omega, List.append_assoc, behindB_frames _ _ _ _ (hlenS p s) (by rw [hA]; omega) (by omega)]
    by_cases h0 : (L.take k).drop p = []
    · rw [h0]
      simp only [framesB, List.nil_append]
      apply hbt
      have : k - p = 0 := by rw [← hB, h0]; rfl
      omega
    · exact behindB_next (hlenS k p) (by omega) (by omega) h0
  have hall := allB_frames ((L.take k).drop p) (p + 1) t (hlenS k p) (by rw [hB]; omega)
  rw [hB, show p + 1 + (k - p) = k + 1 by omega] at hall
  by_cases hsh : t.length < 16 + (L.getD k []).length
  · rw [allB_none (hnext hsh)] at hall
    simp only [List.append_nil, Nat.add_zero] at hall
    rcases open_cases h.log3 hd hs hre (rows := (L.take k).drop p) (n := (framesB (p + 1) ((L.take k).drop p)).length) (by rw [wrap_small (show p + 1 < 18446744073709551616 by omega)]; exact hall) (by
        rw [framesB_length, hB, h.room]
        have a1 := h.used
        have a2 : total ((L.take k).drop p) ≤ total L := by
          have := total_take_le L k
          have e : total (L.take k) = total ((L.take k).take p) + total ((L.take k).drop p) := by rw [← total_app, List.take_append_drop]
          omega
        omega) with ⟨_, e⟩ | ⟨_, d', ok, C, e⟩
    · refine ⟨d, p, k, ?_, h2, Nat.le_refl _, by omega, hk⟩
      rw [e, hB, wrap_small (by omega), show p + (k - p) = k by omega]
    · obtain ⟨rfl, _⟩ := C.base.calm hf
      refine ⟨d', p, k, ?_, h2, Nat.le_refl _, by omega, hk⟩
      rw [e, if_pos rfl, hB, wrap_small (by omega), show p + (k - p) = k by omega]
  · obtain ⟨hkl, e2⟩ := hwhole hsh
    have hn := nextB_frame (k + 1) L[k] [] (by omega) (by have := hlen _ (List.getElem_mem hkl); omega)
    rw [List.append_nil] at hn
    have hall2 := allB_frames ((L.take (k + 1)).drop p) (p + 1) [] (hlenS (k + 1) p) (by simp; omega)
    rw [List.append_nil, allB_none nextB_nil] at hall2
    simp only [List.append_nil, Nat.add_zero] at hall2
    have hrest : framesB (p + 1) ((L.take k).drop p) ++ t = framesB (p + 1) ((L.take (k + 1)).drop p) := by
      rw [drop_split L (s := p) (p := k) (k := k + 1) h2 (by omega), framesB_app, hB, show p + 1 + (k - p) = k + 1 by omega, e2]
      congr 1
      rw [drop_last L hkl]
      simp [framesB]
    rw [hrest] at hre
    have hB1 : ((L.take (k + 1)).drop p).length = k + 1 - p := by simp; omega
    rcases open_cases h.log3 hd hs hre (rows := (L.take (k + 1)).drop p) (n := (framesB (p + 1) ((L.take (k + 1)).drop p)).length) (by rw [wrap_small (show p + 1 < 18446744073709551616 by omega)]; exact hall2) (by
        rw [framesB_length, hB1, h.room]
        have a1 := h.used
        have a2 : total ((L.take (k + 1)).drop p) ≤ total L := by
          have := total_take_le L (k + 1)
          have e : total (L.take (k + 1)) = total ((L.take (k + 1)).take p) + total ((L.take (k + 1)).drop p) := by rw [← total_app, List.take_append_drop]
          omega
        omega) with ⟨_, e⟩ | ⟨hlt, _⟩
    · refine ⟨d, p, k + 1, ?_, by omega, by omega, Nat.le_refl _, by omega⟩
      rw [e, hB1, wrap_small (by omega), show p + (k + 1 - p) = k + 1 by omega]
    · omega
/-- a log in use: k rows were appended, the first p lie in the state -/
structure Live (L : List (List UInt8)) (U p k : Nat) (l : Lg) : Prop where
  log3 : l.d.Log3
  dead : l.d.dead = false
  broken : l.broken = false
  room : l.d.room = 20000
  used : used l.d.files ≤ U + 16 * k + total (L.take k)
  seq : l.seq = k
  le : k ≤ L.length
  ple : p ≤ k
  snap : (l.d.look sSnap = none ∧ p = 0) ∨ l.d.look sSnap = some ⟨sSnap, frameB p (joinB (L.take p)), (frameB p (joinB (L.take p))).length⟩
  log : (l.d.old sLog).b = framesB (p + 1) ((L.take k).drop p)
  lasts : (l.d.old sLog).lasts = (l.d.old sLog).b.length
theorem Live.recs {L : List (List UInt8)} {U p k : Nat} {l : Lg} (h : Live L U p k l) (hL : L.length ≤ 12) (ht : total L ≤ 300) (hU : U ≤ 1000) : Rec L k l.d :=
  ⟨h.log3, h.room, by have := h.used; have := total_take_le L k; have := h.le; omega, h.le, p, p, [], 0, Nat.le_refl _, h.ple, h.snap, by rw [h.log, List.append_nil], by rw [h.lasts, h.log]; exact Nat.le_refl _, .inl rfl⟩
theorem Live.start (L : List (List UInt8)) (n : Int) : Live L 0 0 0 ⟨(Dk.new 20000).setFuse n, 0, false⟩ := by
  obtain ⟨h1, h2, h3, h4⟩ := (Dk.Log3.new 20000).setFuse n
  have hl : ∀ nm, ((Dk.new 20000).setFuse n).look nm = none := fun nm => by unfold Dk.look; rw [h3]; rfl
  refine ⟨h1, h4, rfl, h2, ?_, rfl, Nat.zero_le _, Nat.le_refl _, .inl ⟨hl _, rfl⟩, ?_, ?_⟩
  · show Hand.used ((Dk.new 20000).setFuse n).files ≤ _
    rw [h3]; simp [Dk.new, Hand.used]
  · rw [old_none' (hl _)]; simp [framesB]
  · rw [old_none' (hl _)]; rfl
theorem Live.append {L : List (List UInt8)} {U p k : Nat} {l : Lg} (h : Live L U p k l) (hk : k < L.length) (hL : L.length ≤ 12) (ht : total L ≤ 300) (hU : U ≤ 1000) :
    (∃ l', l.append L[k] = (l', 0) ∧ Live L U p (k + 1) l') ∨ (∃ l', l.append L[k] = (l', 22) ∧ Rec L k l'.d) := by
  have hlen := total_mem (List.getElem_mem hk)
  have htk := total_take L k hk
  have hle := total_take_le L (k + 1)
  have hu := h.used
  have hp := h.ple
  obtain ⟨d', ok, G, e⟩ := Lg.append_cases h.broken h.log3 h.dead (b := L[k]) (by omega) (by rw [h.room]; omega)
  have hw : wrapN (l.seq + 1) = k + 1 := by rw [h.seq, wrap_small (by omega)]
  rw [hw] at G e
  have hgu := G.base.used
  rw [frameB_length] at hgu
  have hB : ((L.take k).drop p).length = k - p := by simp; omega
  cases ok with
  | true =>
    left
    rw [if_pos rfl] at e
    have hlog : (d'.old sLog).b = framesB (p + 1) ((L.take (k + 1)).drop p) := by
      rw [old_some' (G.done rfl)]
      show (l.d.old sLog).b ++ frameB (k + 1) L[k] = _
      rw [h.log, drop_split L (s := p) (p := k) (k := k + 1) hp (by omega), framesB_app, hB, show p + 1 + (k - p) = k + 1 by omega]
      congr 1
      rw [drop_last L hk]
      simp [framesB]
    refine ⟨_, e, G.base.log3, G.base.dead, rfl, G.base.room.trans h.room, by show Hand.used d'.files ≤ _; omega, rfl, by omega, by omega, ?_, hlog, ?_⟩
    · rw [G.other _ (Ne.symm ne3)]; exact h.snap
    · show (d'.old sLog).lasts = (d'.old sLog).b.length
      rw [old_some' (G.done rfl)]
  | false =>
    right
    rw [if_neg (by simp)] at e
    obtain ⟨j, hj, hlk⟩ := G.not rfl
    refine ⟨_, e, G.base.log3, G.base.room.trans h.room, by show Hand.used d'.files ≤ _; omega, by omega, p, p, _, j, Nat.le_refl _, hp, ?_, ?_, ?_, .inr ⟨hk, rfl⟩⟩
    · rw [G.other _ (Ne.symm ne3)]; exact h.snap
    · rw [old_some' hlk, ← h.log]
    · rw [old_some' hlk, ← h.log]
      exact Nat.le_of_eq h.lasts.symm
/-- a packing: done, or the power was lost -/
theorem Live.pack {L : List (List UInt8)} {k : Nat} {l : Lg} (h : Live L 0 0 k l) (hL : L.length ≤ 12) (ht : total L ≤ 300) :
    ∃ l' e, l.pack (joinB (L.take k)) = (l', e) ∧ (Live L 400 k k l' ∨ (l'.broken = true ∧ Rec L k l'.d)) := by
  have hle := total_take_le L k
  have hk := h.le
  have hjl : (joinB (L.take k)).length ≤ 312 := by rw [joinB_length]; simp; omega
  have hu := h.used
  obtain ⟨d', ok, P, e⟩ := Lg.pack_cases h.broken h.log3 h.dead (b := joinB (L.take k)) (by omega) (by rw [h.room]; omega)
  rw [h.seq] at P e
  have hgu := P.base.used
  rw [frameB_length] at hgu
  cases ok with
  | true =>
    rw [if_pos rfl] at e
    have D := P.done rfl
    refine ⟨_, _, e, .inl ⟨P.base.log3, P.base.dead, rfl, P.base.room.trans h.room, by show Hand.used d'.files ≤ _; omega, rfl, hk, Nat.le_refl _, .inr D.1, ?_, ?_⟩⟩
    · show (d'.old sLog).b = _
      rw [old_none' D.2.2, List.drop_eq_nil_of_le (by simp; omega)]; rfl
    · show (d'.old sLog).lasts = (d'.old sLog).b.length
      rw [old_none' D.2.2]; rfl
  | false =>
    rw [if_neg (by simp)] at e
    obtain ⟨N1, N2⟩ := P.not rfl
    have ho : d'.old sLog = l.d.old sLog := by unfold Dk.old; rw [N2]
    refine ⟨_, _, e, .inr ⟨rfl, P.base.log3, P.base.room.trans h.room, by show Hand.used d'.files ≤ _; omega, hk, ?_⟩⟩
    rcases N1 with N1 | N1
    · refine ⟨0, 0, [], 0, Nat.le_refl _, Nat.zero_le _, ?_, ?_, ?_, .inl rfl⟩
      · rw [show (⟨d', k, true⟩ : Lg).d = d' from rfl, N1]; exact h.snap
      · show (d'.old sLog).b = _
        rw [ho, h.log, List.append_nil]
      · show _ ≤ (d'.old sLog).lasts
        rw [ho, h.lasts, h.log]; exact Nat.le_refl _
    · refine ⟨k, 0, [], 0, Nat.zero_le _, Nat.le_refl _, .inr N1, ?_, ?_, .inl rfl⟩
      · show (d'.old sLog).b = _
        rw [ho, h.log, List.append_nil]
      · show _ ≤ (d'.old sLog).lasts
        rw [ho, h.lasts, h.log]; exact Nat.le_refl _
end Go.Proofs.Ytdabflkejhoghaa.Hand
