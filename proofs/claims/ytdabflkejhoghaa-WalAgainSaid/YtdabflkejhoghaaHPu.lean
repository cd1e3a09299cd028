/- WalAgain: the plain law, first part. -/
import Derived.Test.YtdabflkejhoghaaHPk
open Go
namespace Go.Proofs.Ytdabflkejhoghaa.Hand
set_option linter.unusedVariables false
theorem nextB_prefix {t u : List UInt8} (h : t <+: u) : nextB t = none ∨ nextB t = nextB u := by
  cases hn : nextB t with
  | none => exact .inl rfl
  | some q =>
    obtain ⟨s, x⟩ := q
    obtain ⟨i1, i2, i3, i4⟩ := nextB_inv hn
    obtain ⟨r, rfl⟩ := h
    have e := nextB_split hn
    have : nextB (t ++ r) = some (s, x) := by
      rw [e, List.append_assoc]
      exact nextB_frame s x _ i2 i1
    exact .inr this.symm
theorem allB_nil {t : List UInt8} {seq : Nat} (h : (allB t seq).1 = []) : nextB t = none ∨ ∃ s x, nextB t = some (s, x) ∧ s ≠ seq := by
  cases hn : nextB t with
  | none => exact .inl rfl
  | some q =>
    obtain ⟨s, x⟩ := q
    right
    refine ⟨s, x, rfl, ?_⟩
    rintro rfl
    rw [allB_some hn] at h
    cases h
theorem allB_nil2 {t : List UInt8} {seq : Nat} (h : nextB t = none ∨ ∃ s x, nextB t = some (s, x) ∧ s ≠ seq) : allB t seq = ([], 0) := by
  rcases h with h | ⟨s, x, h, hs⟩
  · exact allB_none h
  · exact allB_other h hs
/-- a prefix of a tail without rows has none -/
theorem allB_prefix {t u : List UInt8} {seq : Nat} (hp : t <+: u) (h : (allB u seq).1 = []) : allB t seq = ([], 0) := by
  apply allB_nil2
  rcases nextB_prefix hp with hn | hn
  · exact .inl hn
  · rw [hn]; exact allB_nil h
theorem behindB_prefix0 {t u : List UInt8} (hp : t <+: u) (h : ∀ x, nextB u ≠ some (0, x)) : behindB t 0 = t := by
  rcases nextB_prefix hp with hn | hn
  · exact behindB_none hn
  · cases hu : nextB u with
    | none => exact behindB_none (hn.trans hu)
    | some q =>
      obtain ⟨s, x⟩ := q
      have hs : s ≠ 0 := fun e => h x (by rw [hu, e])
      exact behindB_other (hn.trans hu) (by omega)
/-- an opening of frames with a tail that has no next row -/
theorem open_tail {d : Dk} (h3 : d.Log3) (hd : d.dead = false) (hsn : d.look sSnap = none) {L : List (List UInt8)} {t : List UInt8} (hlog : (d.old sLog).b = framesB 1 L ++ t) (hl : ∀ x ∈ L, x.length ≤ 65536) (hL : L.length ≤ 1000)
    (ht : allB t (L.length + 1) = ([], 0)) (hb : L = [] → behindB t 0 = t) (hr : used d.files + (framesB 1 L).length ≤ d.room) :
    (t = [] ∧ d.openD = ⟨d, 0, [], L, L.length⟩) ∨ (t ≠ [] ∧ ∃ d' ok, Cut d (framesB 1 L ++ t) (framesB 1 L).length d' ok ∧ d.openD = if ok = true then ⟨d', 0, [], L, L.length⟩ else ⟨d', 22, [], [], 0⟩) := by
  have hre : behindB (d.old sLog).b 0 = framesB 1 L ++ t := by
    rw [hlog]
    by_cases h0 : L = []
    · subst h0; simpa [framesB] using hb rfl
    · exact behindB_next hl (by omega) (by omega) h0
  have ha : allB (framesB 1 L ++ t) (wrapN (0 + 1)) = (L, (framesB 1 L).length) := by
    have := allB_frames L 1 t hl (by omega)
    rw [show 1 + L.length = L.length + 1 by omega, ht] at this
    rw [wrap_small (by omega)]
    simpa using this
  have hw : wrapN (0 + L.length) = L.length := by rw [wrap_small (by omega)]; omega
  rcases open_cases h3 hd (state_none hsn) hre ha hr with ⟨e1, e2⟩ | ⟨e1, d', ok, C, e2⟩
  · left
    rw [hw] at e2
    refine ⟨?_, e2⟩
    rw [List.length_append] at e1
    exact List.length_eq_zero_iff.1 (by omega)
  · right
    rw [hw] at e2
    refine ⟨?_, d', ok, C, e2⟩
    rintro rfl
    simp at e1
/-- frames that last, a piece of the tail behind them -/
structure Tl (L : List (List UInt8)) (tail : List UInt8) (U : Nat) (d : Dk) : Prop where
  log3 : d.Log3
  room : d.room = 20000
  used : used d.files ≤ U
  snap : d.look sSnap = none
  held : ∃ t, t <+: tail ∧ (d.old sLog).b = framesB 1 L ++ t ∧ (framesB 1 L).length ≤ (d.old sLog).lasts
theorem Tl.crash {L : List (List UInt8)} {tail : List UInt8} {U : Nat} {d : Dk} (h : Tl L tail U d) (keep : Int) : Tl L tail U (d.crash keep) := by
  have C := h.log3.crash keep
  obtain ⟨t, h1, h2, h3⟩ := h.held
  refine ⟨C.log3, C.room.trans h.room, Nat.le_trans C.used h.used, C.none _ h.snap, ?_⟩
  cases hl : d.look sLog with
  | none =>
    rw [old_none' hl] at h2 h3
    exact ⟨t, h1, by rw [old_none' (C.none _ hl)]; exact h2, by rw [old_none' (C.none _ hl)]; exact h3⟩
  | some f =>
    rw [old_some' hl] at h2 h3
    obtain ⟨n, n1, n2, n3⟩ := C.some _ _ hl
    have e := old_some' n3
    refine ⟨t.take (n - (framesB 1 L).length), (List.take_prefix _ _).trans h1, ?_, ?_⟩
    · rw [e, h2, List.take_append, List.take_of_length_le (by omega)]
    · rw [e]; simp only; omega
theorem Tl.fuse {L : List (List UInt8)} {tail : List UInt8} {U : Nat} {d : Dk} (h : Tl L tail U d) (n : Int) : Tl L tail U (d.setFuse n) := by
  obtain ⟨s1, s2, s3, s4⟩ := h.log3.setFuse n
  have hl : ∀ nm, (d.setFuse n).look nm = d.look nm := fun nm => by unfold Dk.look; rw [s3]
  have ho : (d.setFuse n).old sLog = d.old sLog := by unfold Dk.old; rw [hl]
  exact ⟨s1, s2.trans h.room, by rw [s3]; exact h.used, by rw [hl]; exact h.snap, by rw [ho]; exact h.held⟩
theorem Tl.opened {L : List (List UInt8)} {tail : List UInt8} {U : Nat} {d : Dk} (h : Tl L tail U d) (hd : d.dead = false) (hl : ∀ x ∈ L, x.length ≤ 65536) (hL : L.length ≤ 1000) (hU : U + (framesB 1 L).length ≤ 20000)
    (ht : (allB tail (L.length + 1)).1 = []) (hb : L = [] → ∀ x, nextB tail ≠ some (0, x)) : Tl L tail (U + (framesB 1 L).length) d.openD.d := by
  obtain ⟨t, h1, h2, h3⟩ := h.held
  have hu := h.used
  rcases open_tail h.log3 hd h.snap h2 hl hL (allB_prefix h1 ht) (fun e => behindB_prefix0 h1 (hb e)) (by rw [h.room]; omega) with ⟨_, e⟩ | ⟨_, d', ok, C, e⟩
  · rw [e]
    exact ⟨h.log3, h.room, by show Hand.used d.files ≤ _; omega, h.snap, t, h1, h2, h3⟩
  · have ed : d.openD.d = d' := by rw [e]; cases ok <;> rfl
    rw [ed]
    have hbu := C.base.used
    refine ⟨C.base.log3, C.base.room.trans h.room, by omega, C.snap.trans h.snap, ?_⟩
    cases ok with
    | false =>
      have ho : d'.old sLog = d.old sLog := by unfold Dk.old; rw [C.not rfl]
      exact ⟨t, h1, by rw [ho]; exact h2, by rw [ho]; exact h3⟩
    | true =>
      obtain ⟨c1, c2⟩ := C.done rfl
      refine ⟨[], List.nil_prefix, ?_, ?_⟩
      · by_cases h0 : 0 < (framesB 1 L).length
        · rw [old_some' (c1 h0), List.append_nil, List.take_left' rfl]
        · have : framesB 1 L = [] := List.length_eq_zero_iff.1 (by omega)
          rw [old_none' (c2 (by omega)), this]; rfl
      · by_cases h0 : 0 < (framesB 1 L).length
        · rw [old_some' (c1 h0)]; exact Nat.le_refl _
        · omega
/-- a log of whatever bytes, with no state -/
structure Gn (U : Nat) (d : Dk) : Prop where
  log3 : d.Log3
  room : d.room = 20000
  used : used d.files ≤ U
  snap : d.look sSnap = none
  len : (d.old sLog).b.length ≤ 500
theorem Gn.crash {U : Nat} {d : Dk} (h : Gn U d) (keep : Int) : Gn U (d.crash keep) := by
  have C := h.log3.crash keep
  refine ⟨C.log3, C.room.trans h.room, Nat.le_trans C.used h.used, C.none _ h.snap, ?_⟩
  have hl0 := h.len
  cases hl : d.look sLog with
  | none => rw [old_none' (C.none _ hl)]; simp
  | some f =>
    rw [old_some' hl] at hl0
    obtain ⟨n, n1, n2, n3⟩ := C.some _ _ hl
    rw [old_some' n3]; simp only [List.length_take]; omega
theorem Gn.fuse {U : Nat} {d : Dk} (h : Gn U d) (n : Int) : Gn U (d.setFuse n) := by
  obtain ⟨s1, s2, s3, s4⟩ := h.log3.setFuse n
  have hl : ∀ nm, (d.setFuse n).look nm = d.look nm := fun nm => by unfold Dk.look; rw [s3]
  have ho : (d.setFuse n).old sLog = d.old sLog := by unfold Dk.old; rw [hl]
  exact ⟨s1, s2.trans h.room, by rw [s3]; exact h.used, by rw [hl]; exact h.snap, by rw [ho]; exact h.len⟩
theorem Gn.opened {U : Nat} {d : Dk} (h : Gn U d) (hd : d.dead = false) (hU : U + 500 ≤ 20000) :
    Gn (U + 500) d.openD.d ∧ (d.fuse = none → d.openD.err = 0 ∧ d.openD.snap = []) := by
  have hu := h.used
  obtain ⟨rest, hre⟩ : ∃ rest, behindB (d.old sLog).b 0 = rest := ⟨_, rfl⟩
  have hrl : rest.length ≤ 500 := by
    obtain ⟨j, j1, j2⟩ := behindB_suffix _ (d.old sLog).b 0 (Nat.le_refl _)
    rw [← hre, j2, List.length_drop]; have := h.len; omega
  obtain ⟨rows, n, ha⟩ : ∃ rows n, allB rest (wrapN (0 + 1)) = (rows, n) := ⟨_, _, rfl⟩
  have hn : n ≤ rest.length := by have := (allB_le _ rest (wrapN (0 + 1)) (Nat.le_refl _)).1; rw [ha] at this; exact this
  rcases open_cases h.log3 hd (state_none h.snap) hre ha (by rw [h.room]; omega) with ⟨_, e⟩ | ⟨_, d', ok, C, e⟩
  · rw [e]
    exact ⟨⟨h.log3, h.room, by show Hand.used d.files ≤ _; omega, h.snap, h.len⟩, fun _ => ⟨rfl, rfl⟩⟩
  · have ed : d.openD.d = d' := by rw [e]; cases ok <;> rfl
    rw [ed]
    have hbu := C.base.used
    refine ⟨⟨C.base.log3, C.base.room.trans h.room, by omega, C.snap.trans h.snap, ?_⟩, fun hf => ?_⟩
    · cases ok with
      | false =>
        have ho : d'.old sLog = d.old sLog := by unfold Dk.old; rw [C.not rfl]
        rw [ho]; exact h.len
      | true =>
        obtain ⟨c1, c2⟩ := C.done rfl
        by_cases h0 : 0 < n
        · rw [old_some' (c1 h0)]; simp only [List.length_take]; omega
        · rw [old_none' (c2 (by omega))]; simp
    · obtain ⟨rfl, _⟩ := C.base.calm hf
      rw [e]; exact ⟨rfl, rfl⟩
end Go.Proofs.Ytdabflkejhoghaa.Hand
