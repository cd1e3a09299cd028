/- The disk's law: like. -/
import Derived.Below
import Derived.Deep.Draws
import Derived.Deep.AppendLies
import Derived.Maps.AppendAt
import Derived.OwnWalk
import Derived.Laws.BytesArg
import Derived.Laws.MakeOwn
import Derived.Laws.OwnMore
import Derived.Deep.OwnRows
import Derived.Tactics
import Derived.Lib.ConvBytes
import Derived.Laws.Slices
import Derived.WalkKit
import Derived.KernelRfl
import Derived.RowKit3
import Derived.Deep.LoopGhost
import Derived.Deep.QuietTactic
import Derived.BigQuiet
import Derived.WideLaws
import Derived.Deep.DeepCutAuto
import Derived.Deep.CutBlock
import Derived.Deep.RegionHeld3
import Derived.Laws.Rows
import Derived.Lib.AppendStr
import Derived.ArgAppend
import Derived.Laws.IdiomCopy
import Derived.OrdersHeld
import Derived.Laws.BitsLemmas
import Derived.RowKit
import Derived.Outline
import Derived.Maps.Own
import Derived.Maps.OwnOps
import Derived.Maps.OwnSet
import Derived.Maps.Views
import Derived.Maps.RangeWalk
import Derived.Maps.Ext
import Derived.RangeFuncOwn
import Derived.OneCell
import Derived.Deep.DeepMust
import Derived.Lib.Hide
import Derived.StillTailTactics
import Derived.Laws.AppendOwnNone
import Derived.WalkMore
import Derived.Lib.SlBytesConst
import Derived.WalkLawsBesides
import Derived.Laws.BitsAllLaws
import Derived.Test.YtdabflkejhoghaaHWa
import Derived.Test.YtdabflkejhoghaaWLast
import Derived.Test.YtdabflkejhoghaaHSg
import Derived.Test.YtdabflkejhoghaaHSk
namespace Go.Proofs.Ytdabflkejhoghaa.Hand
open Go Go.RowKit Go.Maps Go.WideMaps Go.Proofs.Ytdabflkejhoghaa.HW Go.Proofs.YtdabflkejhoghaaW.PrintLast
set_option linter.unusedVariables false
set_option linter.unusedSimpArgs false
theorem infoStr : (Try.prog.info? 9).map (fun i => (i.zero, i.size, i.bytes)) = some (some (.string ⟨#[]⟩), 1, 16) := by kernel_rfl
theorem wpList_appS {w : World} {ops : Array Oper} {rest : List Oper} {o : Oper} {a : Act} {Q : Exit → Act → World → Prop} (hg : o.guard = none) (s x : Operand)
    (ho : o.op = .call { callee := .builtin .append, args := #[s, x], argTypes := #[45, 45] }) (base : Nat) (v : Value) (L : List (List UInt8)) (hs : a.eval s = v) (hown : NamesV w base v L)
    (g c : Nat) (nm : List UInt8) (hx : a.eval x = .slice (some ⟨g, 0, none⟩) 1 c) (hu : w.cell? ⟨g, 0, none⟩ = some (.string ⟨nm.toArray⟩)) (hlen : L.length + 1 ≤ 1000000) (hbase : base ≤ w.heap.size)
    (hK : ∀ v' w', NamesV w' base v' (L ++ [nm]) → w.grownBy w' v.ownBlock → wpList Try.prog ops Q rest (a.put o.dst v') w') : wpList Try.prog ops Q (o :: rest) a w := by
  obtain ⟨i0, hi, hz0, hz1, hz2⟩ := info_parts8 infoStr
  refine wpList_append_own w hg s x 45 ho base 9 i0 (.string ⟨#[]⟩) 1 16 Try.underlying45 hi hz0 hz1 hz2 rfl (by decide) v L.length (L.map encStr) hs hown ⟨g, 0, none⟩ 1 c [encStr nm] hx rfl ?_ (by simp [encStr, Value.oneCell']) (by unfold maxLen; omega) (by omega) hbase (fun v' w' h1 h2 _ => hK v' w' (by unfold NamesV; simpa using h1) h2)
  intro j y hy
  match j, hy with
  | 0, hy =>
    have e : (⟨g, 0, none⟩ : Addr).add 0 = ⟨g, 0, none⟩ := by unfold Addr.add; split <;> simp_all
    rw [e, hu]; simpa [encStr] using hy
  | j + 1, hy => simp at hy
theorem NamesV.own {w : World} {base : Nat} {v : Value} {L : List (List UInt8)} (h : NamesV w base v L) : ∀ k, v.ownBlock = some k → base ≤ k ∧ k < w.heap.size := by
  rcases h.2 with ⟨rfl, _⟩ | ⟨g, cap, cur, rfl, hg, hb, _⟩
  · simp [Value.ownBlock]
  · intro k hk
    have hkg : k = g := by simp [Value.ownBlock] at hk; omega
    subst hkg
    exact ⟨hg, (Array.getElem?_eq_some_iff.1 hb).1⟩
theorem take_names {l : List F} {j : Nat} (hj : j < l.length) : (l.take j).map F.name ++ [l[j].name] = (l.take (j + 1)).map F.name := by
  rw [List.take_succ_eq_append_getElem hj, List.map_append]; rfl
theorem Box1.nextB {w w3 w4 : World} {cs : Array Value} (h : Box1 w w3 cs) (k : Kp [] (w.heap.size + 1) w3 w4) : Box1 w w4 cs :=
  ⟨h.kp.trans (k.mono (by simp) (by omega)), Nat.le_trans h.size k.size, (k.block _ (by omega) (by simp)).trans h.box⟩
set_option maxHeartbeats 8000000 in
set_option maxRecDepth 100000 in
/-- both disks have the same -/
theorem llike {A : Nat → Prop} {p mb : Nat} (d : Dk) (v : Value) (w : World) (hD : IsDisk w A p mb d) (hT : IsT w v d) :
    Calls Try.prog 42 #[.pointer (some ⟨p, 0, none⟩), v] w fun e w' => e = .returned (.bool true) ∧ Kp [] w.heap.size w w' := by
  have HD := Lib.hid hD
  have HT0 := Lib.hid hT
  have hok := hD.ok
  obtain ⟨fv, left, rfl, hf, -⟩ := hT
  obtain ⟨ao, cap, rfl, -, -⟩ := hf.shape
  obtain ⟨m, hm⟩ : ∃ m, m = d.files.length := ⟨_, rfl⟩
  have hm8 : m ≤ 8 := by rw [hm]; exact hok.few
  have HFW : Hid (FilesR w 0 (.slice ao m cap) d.files) := by rw [hm]; exact hf
  rw [← hm]
  have HM := Lib.hid hm
  have HT : Hid (IsT w (.agg #[.slice ao m cap, .int .i64 (d.room : Int), .bool d.fuse.isSome, .int .i64 left, .bool d.dead]) d) := by rw [hm]; exact HT0.out
  have HOK := Lib.hid hok
  clear hf hok hm hD HT0
  go_enter Try.func42, Try.ntmps42
  go_wp2_with fail
  have B1 := Lib.hid (Box1.new w #[.slice ao m cap, .int .i64 (d.room : Int), .bool d.fuse.isSome, .int .i64 left, .bool d.dead])
  obtain ⟨W1, hW1⟩ : ∃ W1, W1 = w.alloc (.cells #[.slice ao m cap, .int .i64 (d.room : Int), .bool d.fuse.isSome, .int .i64 left, .bool d.dead] 59) := ⟨_, rfl⟩
  rw [← hW1] at B1 ⊢
  clear hW1
  go_loopw [5, 6] (fun ns i wr => ∃ (j cn : Nat) (on : Option Addr), j ≤ m ∧ ns = .slice on j cn ∧ i = .int .i64 (j : Int) ∧ Hid (NamesV wr (w.heap.size + 1) (.slice on j cn) ((d.files.take j).map F.name)) ∧ Hid (Box1 w wr #[.slice ao m cap, .int .i64 (d.room : Int), .bool d.fuse.isSome, .int .i64 left, .bool d.dead])) (fun _ i _ => m - (intOf i).toNat)
  case atStart => exact ⟨0, 0, none, by omega, rfl, rfl, NamesV.nil _ _, B1.out⟩
  case round =>
    obtain ⟨j, cn, on, hj, rfl, rfl, HNS, BX⟩ := hrel
    obtain ⟨e0, -, -, -, e4⟩ := boxT BX.out.box
    by_cases hlt : j < m
    · have hjd : j < d.files.length := by rw [← HM.out]; exact hlt
      obtain ⟨g, vb, hg0, -, hg, c0, c1, c2, hvb⟩ := HFW.out.at j hjd
      obtain ⟨bb, capb, rfl, -, -, -⟩ := id hvb
      subst hg0
      obtain ⟨f, hf⟩ : ∃ f, f = d.files[j] := ⟨_, rfl⟩
      have hfm : f ∈ d.files := by rw [hf]; exact List.getElem_mem _
      rw [← hf] at c0 c1 c2 hvb
      have HFE := Lib.hid hf
      have d0 := (BX.out.kp.cell (p := ⟨g, j * 3, none⟩) hg (by simp)).trans c0
      have d1 := (BX.out.kp.cell (p := ⟨g, j * 3 + 1, none⟩) hg (by simp)).trans c1
      have d2 := (BX.out.kp.cell (p := ⟨g, j * 3 + 2, none⟩) hg (by simp)).trans c2
      have HVB := Lib.hid hvb
      have hnl : f.name.length ≤ maxLen := by have := named_le (HOK.out.names f hfm); unfold maxLen; omega
      have hlk : d.look f.name = some f := look_of_mem HOK.out.rising.nodup hfm
      have hth : Hid (d.there f.name = true) := by show _ = _; unfold Dk.there; rw [hlk]; rfl
      have HOL : Hid (d.old f.name = f) := by show _ = _; unfold Dk.old; rw [hlk]; rfl
      have hfl := HOK.out.lasts f hfm
      have hbc := hvb.cap.1
      have HDr := Lib.hid (HD.out.kp_ge BX.out.kp)
      obtain ⟨gb, hgb⟩ : ∃ gb, gb = wr.heap.size := ⟨_, rfl⟩
      have HGB := Lib.hid hgb
      have hj2 : (0 : Int) ≤ (j : Int) := by omega
      clear c0 c1 c2 hvb hf hfm hlk hgb
      go_upto_region 6 with fail
      have hfb0 := World.alloc_heap_new wr (.cells #[.string ⟨f.name.toArray⟩, .slice bb f.b.length capb, .int .i64 (f.lasts : Int)] 115)
      have hkb : Kp [] wr.heap.size wr (wr.alloc (.cells #[.string ⟨f.name.toArray⟩, .slice bb f.b.length capb, .int .i64 (f.lasts : Int)] 115)) := kp1 _ _
      obtain ⟨W5, hW5⟩ : ∃ W5, W5 = wr.alloc (.cells #[.string ⟨f.name.toArray⟩, .slice bb f.b.length capb, .int .i64 (f.lasts : Int)] 115) := ⟨_, rfl⟩
      have hzw : W5.heap.size = wr.heap.size + 1 := by rw [hW5]; simp
      rw [← hW5] at hfb0 hkb ⊢
      obtain ⟨l0, l1, l2⟩ := boxF hfb0
      have HN5 := Lib.hid (HNS.out.kp hkb)
      have HOW := Lib.hid HNS.out.own
      have hbw : w.heap.size + 1 ≤ wr.heap.size := BX.out.size
      have HFT := Lib.hid (take_names hjd)
      have HFN : Hid (d.files[j].name = f.name) := by show _ = _; rw [HFE.out]
      have HKB := Lib.hid hkb
      have HFB := Lib.hid hfb0
      clear hW5 hkb hfb0 d0 d1 d2
      go_upto_region 7 with (at_builtin; go_must (refine wpList_appS rfl _ _ rfl (w.heap.size + 1) _ _ rfl (HN5.out.kp (kp1 _ _)) _ _ f.name rfl ((Lib.cell_of_heap (new_at W5 (.cells #[.string ⟨f.name.toArray⟩] 9) _ hzw.symm) 0).trans rfl) (by simp; omega) (by simp; omega) ?_; intro v6 w6 h6 g6))
      rw [← HFN.out, HFT.out] at h6
      have hl6 : ((d.files.take (j + 1)).map F.name).length = j + 1 := by simp; omega
      obtain ⟨o6, c6, rfl, -, -⟩ := h6.shape
      rw [hl6] at h6 ⊢
      have k6 : Kp [] (w.heap.size + 1) (W5.alloc (.cells #[.string ⟨f.name.toArray⟩] 9)) w6 := kp_grown g6 (fun k hk => (HOW.out k hk).1) (by simp; omega)
      have hfb6 := (g6.block wr.heap.size (by simp; omega) (fun e => by have := (HOW.out _ e.symm).2; omega)).trans (((kp1 W5 (.cells #[.string ⟨f.name.toArray⟩] 9)).block wr.heap.size (by omega) (by simp)).trans HFB.out)
      have hk06 : Kp [] (w.heap.size + 1) wr w6 := ((HKB.out.mono (by simp) hbw).trans ((kp1 W5 _).mono (by simp) (by omega))).trans k6
      have hg06 : wr.heap.size < w6.heap.size := by have := k6.size; simp at this; omega
      have B6 := Lib.hid (BX.out.nextB hk06)
      have HFB6 := Lib.hid hfb6
      have HN6 := Lib.hid h6
      clear h6 g6 k6 hfb6 hk06 hl6 hzw l0 l1 l2
      obtain ⟨l0, l1, l2⟩ := boxF HFB6.out
      go_wp2_with fail
      refine (dRead A _ _ d f.name _ (HD.out.kp_ge B6.out.kp) hnl).mono ?_
      rintro e w5 ⟨vy, rfl, hy5, k5⟩
      rw [hth.out]
      rw [HOL.out] at hy5
      obtain ⟨oy, ny, cy, rfl, hny⟩ := own_shape hy5
      have hfb := (k5.block wr.heap.size hg06 (by simp)).trans HFB6.out
      rw [← HGB.out] at hfb ⊢
      obtain ⟨k0, k1, k2⟩ := boxF hfb
      clear l0 l1 l2
      have B5 := Lib.hid (B6.out.next k5)
      have HN7 := Lib.hid (HN6.out.kp k5)
      have HD5 := Lib.hid ((HD.out.kp_ge B6.out.kp).kp_ge k5)
      have hgl : gb < w5.heap.size := by rw [HGB.out]; have := k5.size; omega
      have HVB5 := HVB.out.kp B5.out.kp (by simp)
      have HVL := HVB5.take f.lasts hfl
      have hY5 := own_bytes hy5
      have cvA : ∀ W, Kp [] w5.heap.size w5 W → (convert 22 9 (.slice oy ny cy)).run Try.prog W = .ok (.string ⟨f.b.toArray⟩) W := fun W hk => conv_bytes (hY5.kp hk (by simp))
      have cvB : ∀ W, Kp [] w5.heap.size w5 W → (convert 22 9 (.slice bb f.b.length capb)).run Try.prog W = .ok (.string ⟨f.b.toArray⟩) W := fun W hk => conv_bytes (HVB5.kp hk (by simp))
      have cvD : ∀ W, Kp [] w5.heap.size w5 W → (convert 22 9 (.slice bb f.lasts capb)).run Try.prog W = .ok (.string ⟨(f.b.take f.lasts).toArray⟩) W := fun W hk => conv_bytes (HVL.kp hk (by simp))
      obtain ⟨Z, hZ⟩ : ∃ Z : ByteArray, Z = ⟨f.b.toArray⟩ := ⟨_, rfl⟩
      obtain ⟨Y, hY⟩ : ∃ Y : ByteArray, Y = ⟨(f.b.take f.lasts).toArray⟩ := ⟨_, rfl⟩
      have HLS : Hid ((⟨f.last.toArray⟩ : ByteArray) = Y) := by show _ = _; rw [hY]; rfl
      rw [← hZ] at cvA cvB
      rw [← hY] at cvD
      have hflc : (f.lasts : Int) ≤ (capb : Int) := by omega
      have hkz : Kp [] w5.heap.size w5 w5.drew := (Kp.refl _ _ _).drew 1
      clear hfb hny hy5 k5 e0 e4 HVB5 HVL hY5 hZ hY BX HDr B1 HNS HN6 B6 HFB6 HFB HKB HFT HOW hbw hg06 HFE HN5
      go_upto_region 8 with fail
      refine start_ (n := 24) (S := fun w' => w'.cell? ⟨gb, 0, none⟩ = some (.string ⟨f.name.toArray⟩) ∧ w'.cell? ⟨gb, 1, none⟩ = some (.slice bb f.b.length capb) ∧ w'.cell? ⟨gb, 2, none⟩ = some (.int .i64 (f.lasts : Int)) ∧ (convert 22 9 (.slice oy ny cy)).run Try.prog w' = .ok (.string Z) w' ∧ (convert 22 9 (.slice bb f.b.length capb)).run Try.prog w' = .ok (.string Z) w' ∧ (convert 22 9 (.slice bb f.lasts capb)).run Try.prog w' = .ok (.string Y) w' ∧ Kp [] w5.heap.size w5 w') (ds := []) #[false, false, false, false, false, false, false, false, false, false, false, false, false, false, false, false, false, false, false, false, false, false, false, false] (by kernel_rfl) rfl rfl ⟨((hkz.cell (p := ⟨gb, 0, none⟩) hgl (by simp)).trans k0), ((hkz.cell (p := ⟨gb, 1, none⟩) hgl (by simp)).trans k1), ((hkz.cell (p := ⟨gb, 2, none⟩) hgl (by simp)).trans k2), (cvA _ hkz), (cvB _ hkz), (cvD _ hkz), hkz⟩ (fun hHeld => ?_)
      refine pure_ (i := 0) (N := some 34) (v := ?_) (a' := ?_) #[true, false, false, false, false, false, false, false, false, false, false, false, false, false, false, false, false, false, false, false, false, false, false, false] rfl rfl (by kernel_rfl) (fun _ _ _ h => h) (Or.inl ⟨by rfl, ?_⟩) ?_ ?_
      rotate_left
      · intro w'
        go_simp
        with_reducible rfl
      rotate_left
      · simp only [Act.put, List.setIfInBounds_toArray, List.set_cons_zero, List.set_cons_succ, i64_w, i32_w]
        rfl
      refine pure_ (i := 1) (N := some 35) (v := ?_) (a' := ?_) #[true, true, false, false, false, false, false, false, false, false, false, false, false, false, false, false, false, false, false, false, false, false, false, false] rfl rfl (by kernel_rfl) (fun _ _ _ h => h) (Or.inl ⟨by rfl, ?_⟩) ?_ ?_
      rotate_left
      · intro w'
        go_simp
        with_reducible rfl
      rotate_left
      · simp only [Act.put, List.setIfInBounds_toArray, List.set_cons_zero, List.set_cons_succ, i64_w, i32_w]
        rfl
      refine pure_ (i := 2) (N := some 36) (v := ?_) (a' := ?_) #[true, true, true, false, false, false, false, false, false, false, false, false, false, false, false, false, false, false, false, false, false, false, false, false] rfl rfl (by kernel_rfl) (fun _ _ _ h => h) (Or.inl ⟨by rfl, ?_⟩) ?_ ?_
      rotate_left
      · intro w'
        go_simp
        with_reducible rfl
      rotate_left
      · simp only [Act.put, List.setIfInBounds_toArray, List.set_cons_zero, List.set_cons_succ, i64_w, i32_w]
        rfl
      refine pure_ (i := 3) (N := some 37) (v := ?_) (a' := ?_) #[true, true, true, true, false, false, false, false, false, false, false, false, false, false, false, false, false, false, false, false, false, false, false, false] rfl rfl (by kernel_rfl) (fun _ _ _ h => h) (Or.inl ⟨by rfl, ?_⟩) ?_ ?_
      rotate_left
      · intro w'
        go_simp
        with_reducible rfl
      rotate_left
      · simp only [Act.put, List.setIfInBounds_toArray, List.set_cons_zero, List.set_cons_succ, i64_w, i32_w]
        rfl
      refine pure_ (i := 5) (N := some 39) (v := ?_) (a' := ?_) #[true, true, true, true, false, true, false, false, false, false, false, false, false, false, false, false, false, false, false, false, false, false, false, false] rfl rfl (by kernel_rfl) (fun _ _ _ h => h) (Or.inl ⟨by rfl, ?_⟩) ?_ ?_
      rotate_left
      · intro w'
        go_simp
        with_reducible rfl
      rotate_left
      · simp only [Act.put, List.setIfInBounds_toArray, List.set_cons_zero, List.set_cons_succ, i64_w, i32_w]
        rfl
      refine take_ (i := 4) (N := some 38) (v := ?_) (a' := ?_) #[true, true, true, true, true, true, false, false, false, false, false, false, false, false, false, false, false, false, false, false, false, false, false, false] rfl rfl (by kernel_rfl) (fun _ _ _ h => h) (Or.inl ⟨by rfl, ?_⟩) hHeld ?_ ?_
      rotate_left
      · rintro w' ⟨s0, s1, s2, s3, s4, s5, s6⟩
        go_simp
        with_reducible rfl
      rotate_left
      · simp only [Act.put, List.setIfInBounds_toArray, List.set_cons_zero, List.set_cons_succ, i64_w, i32_w]
        rfl
      refine take_ (i := 6) (N := some 40) (v := ?_) (a' := ?_) #[true, true, true, true, true, true, true, false, false, false, false, false, false, false, false, false, false, false, false, false, false, false, false, false] rfl rfl (by kernel_rfl) (fun _ _ _ h => h) (Or.inl ⟨by rfl, ?_⟩) hHeld ?_ ?_
      rotate_left
      · rintro w' ⟨s0, s1, s2, s3, s4, s5, s6⟩
        go_simp
        with_reducible rfl
      rotate_left
      · simp only [Act.put, List.setIfInBounds_toArray, List.set_cons_zero, List.set_cons_succ, i64_w, i32_w]
        rfl
      refine take_ (i := 7) (N := some 41) (v := ?_) (a' := ?_) #[true, true, true, true, true, true, true, true, false, false, false, false, false, false, false, false, false, false, false, false, false, false, false, false] rfl rfl (by kernel_rfl) (fun _ _ _ h => h) (Or.inl ⟨by rfl, ?_⟩) hHeld ?_ ?_
      rotate_left
      · rintro w' ⟨s0, s1, s2, s3, s4, s5, s6⟩
        go_simp
        with_reducible rfl
      rotate_left
      · simp only [Act.put, List.setIfInBounds_toArray, List.set_cons_zero, List.set_cons_succ, i64_w, i32_w]
        rfl
      refine pure_ (i := 8) (N := some 42) (v := ?_) (a' := ?_) #[true, true, true, true, true, true, true, true, true, false, false, false, false, false, false, false, false, false, false, false, false, false, false, false] rfl rfl (by kernel_rfl) (fun _ _ _ h => h) (Or.inl ⟨by rfl, ?_⟩) ?_ ?_
      rotate_left
      · intro w'
        go_simp
        with_reducible rfl
      rotate_left
      · simp only [Act.put, List.setIfInBounds_toArray, List.set_cons_zero, List.set_cons_succ, i64_w, i32_w]
        rfl
      refine pure_ (i := 9) (N := some 43) (v := ?_) (a' := ?_) #[true, true, true, true, true, true, true, true, true, true, false, false, false, false, false, false, false, false, false, false, false, false, false, false] rfl rfl (by kernel_rfl) (fun _ _ _ h => h) (Or.inl ⟨by rfl, ?_⟩) ?_ ?_
      rotate_left
      · intro w'
        go_simp
        with_reducible rfl
      rotate_left
      · simp only [Act.put, List.setIfInBounds_toArray, List.set_cons_zero, List.set_cons_succ, i64_w, i32_w]
        rfl
      refine pure_ (i := 10) (N := some 44) (v := ?_) (a' := ?_) #[true, true, true, true, true, true, true, true, true, true, true, false, false, false, false, false, false, false, false, false, false, false, false, false] rfl rfl (by kernel_rfl) (fun _ _ _ h => h) (Or.inl ⟨by rfl, ?_⟩) ?_ ?_
      rotate_left
      · intro w'
        go_simp
        with_reducible rfl
      rotate_left
      · simp only [Act.put, List.setIfInBounds_toArray, List.set_cons_zero, List.set_cons_succ, i64_w, i32_w]
        rfl
      refine pure_ (i := 11) (N := some 45) (v := ?_) (a' := ?_) #[true, true, true, true, true, true, true, true, true, true, true, true, false, false, false, false, false, false, false, false, false, false, false, false] rfl rfl (by kernel_rfl) (fun _ _ _ h => h) (Or.inl ⟨by rfl, ?_⟩) ?_ ?_
      rotate_left
      · intro w'
        go_simp
        with_reducible rfl
      rotate_left
      · simp only [Act.put, List.setIfInBounds_toArray, List.set_cons_zero, List.set_cons_succ, i64_w, i32_w]
        rfl
      refine pure_ (i := 12) (N := some 46) (v := ?_) (a' := ?_) #[true, true, true, true, true, true, true, true, true, true, true, true, true, false, false, false, false, false, false, false, false, false, false, false] rfl rfl (by kernel_rfl) (fun _ _ _ h => h) (Or.inl ⟨by rfl, ?_⟩) ?_ ?_
      rotate_left
      · intro w'
        go_simp
        with_reducible rfl
      rotate_left
      · simp only [Act.put, List.setIfInBounds_toArray, List.set_cons_zero, List.set_cons_succ, i64_w, i32_w]
        rfl
      refine pure_ (i := 16) (N := some 50) (v := ?_) (a' := ?_) #[true, true, true, true, true, true, true, true, true, true, true, true, true, false, false, false, true, false, false, false, false, false, false, false] rfl rfl (by kernel_rfl) (fun _ _ _ h => h) (Or.inl ⟨by rfl, ?_⟩) ?_ ?_
      rotate_left
      · intro w'
        go_simp
        with_reducible rfl
      rotate_left
      · simp only [Act.put, List.setIfInBounds_toArray, List.set_cons_zero, List.set_cons_succ, i64_w, i32_w]
        rfl
      refine pure_ (i := 18) (N := some 52) (v := ?_) (a' := ?_) #[true, true, true, true, true, true, true, true, true, true, true, true, true, false, false, false, true, false, true, false, false, false, false, false] rfl rfl (by kernel_rfl) (fun _ _ _ h => h) (Or.inl ⟨by rfl, ?_⟩) ?_ ?_
      rotate_left
      · intro w'
        go_simp
        with_reducible rfl
      rotate_left
      · simp only [Act.put, List.setIfInBounds_toArray, List.set_cons_zero, List.set_cons_succ, i64_w, i32_w]
        rfl
      refine take_ (i := 13) (N := some 47) (v := ?_) (a' := ?_) #[true, true, true, true, true, true, true, true, true, true, true, true, true, true, false, false, true, false, true, false, false, false, false, false] rfl rfl (by kernel_rfl) (fun _ _ _ h => h) (Or.inl ⟨by rfl, ?_⟩) hHeld ?_ ?_
      rotate_left
      · rintro w' ⟨s0, s1, s2, s3, s4, s5, s6⟩
        go_simp
        with_reducible rfl
      rotate_left
      · simp only [Act.put, List.setIfInBounds_toArray, List.set_cons_zero, List.set_cons_succ, i64_w, i32_w]
        rfl
      refine take_ (i := 17) (N := some 51) (v := ?_) (a' := ?_) #[true, true, true, true, true, true, true, true, true, true, true, true, true, true, false, false, true, true, true, false, false, false, false, false] rfl rfl (by kernel_rfl) (fun _ _ _ h => h) (Or.inl ⟨by rfl, ?_⟩) hHeld ?_ ?_
      rotate_left
      · rintro w' ⟨s0, s1, s2, s3, s4, s5, s6⟩
        go_simp
        with_reducible rfl
      rotate_left
      · simp only [Act.put, List.setIfInBounds_toArray, List.set_cons_zero, List.set_cons_succ, i64_w, i32_w]
        rfl
      refine take_ (i := 19) (N := some 53) (v := ?_) (a' := ?_) #[true, true, true, true, true, true, true, true, true, true, true, true, true, true, false, false, true, true, true, true, false, false, false, false] rfl rfl (by kernel_rfl) (fun _ _ _ h => h) (Or.inl ⟨by rfl, ?_⟩) hHeld ?_ ?_
      rotate_left
      · rintro w' ⟨s0, s1, s2, s3, s4, s5, s6⟩
        go_simp
        with_reducible rfl
      rotate_left
      · simp only [Act.put, List.setIfInBounds_toArray, List.set_cons_zero, List.set_cons_succ, i64_w, i32_w]
        rfl
      refine pure_ (i := 20) (N := some 54) (v := ?_) (a' := ?_) #[true, true, true, true, true, true, true, true, true, true, true, true, true, true, false, false, true, true, true, true, true, false, false, false] rfl rfl (by kernel_rfl) (fun _ _ _ h => h) (Or.inl ⟨by rfl, ?_⟩) ?_ ?_
      rotate_left
      · intro w'
        go_simp
        with_reducible rfl
      rotate_left
      · simp only [Act.put, List.setIfInBounds_toArray, List.set_cons_zero, List.set_cons_succ, i64_w, i32_w]
        rfl
      refine take_ (i := 21) (N := some 55) (v := ?_) (a' := ?_) #[true, true, true, true, true, true, true, true, true, true, true, true, true, true, false, false, true, true, true, true, true, true, false, false] rfl rfl (by kernel_rfl) (fun _ _ _ h => h) (Or.inl ⟨by rfl, ?_⟩) hHeld ?_ ?_
      rotate_left
      · rintro w' ⟨s0, s1, s2, s3, s4, s5, s6⟩
        go_simp
        with_reducible rfl
      rotate_left
      · simp only [Act.put, List.setIfInBounds_toArray, List.set_cons_zero, List.set_cons_succ, i64_w, i32_w]
        rfl
      refine one_ (i := 14) (N := some 48) #[true, true, true, true, true, true, true, true, true, true, true, true, true, true, true, false, true, true, true, true, true, true, false, false] rfl rfl (by kernel_rfl) (by decide) (fun K hK => ?_)
      refine goes_ Try.func33 (by kernel_rfl) rfl #[.pointer (some ⟨p, 0, none⟩), .string ⟨f.name.toArray⟩] (by rfl) rfl rfl (by simp only [List.map_toArray, List.map_cons, List.map_nil]; rfl) ?_
      with_reducible refine (dLasting A _ _ d f.name _ (HD5.out.kp_ge hHeld.2.2.2.2.2.2) hnl).mono ?_
      rintro e w8 ⟨v8, rfl, ho8, hk8⟩
      refine ⟨_, rfl, ?_⟩
      obtain ⟨o8, n8, c8, rfl, hn8⟩ := own_shape ho8
      have cv8 := conv_bytes (own_bytes ho8)
      rw [HOL.out, HLS.out] at cv8
      have hk8 := Lib.hid (hHeld.2.2.2.2.2.2.trans (hk8.mono (by simp) hHeld.2.2.2.2.2.2.size))
      refine hK.out _ _ ⟨((hk8.out.cell (p := ⟨gb, 0, none⟩) hgl (by simp)).trans k0), ((hk8.out.cell (p := ⟨gb, 1, none⟩) hgl (by simp)).trans k1), ((hk8.out.cell (p := ⟨gb, 2, none⟩) hgl (by simp)).trans k2), (cvA _ hk8.out), (cvB _ hk8.out), (cvD _ hk8.out), hk8.out⟩ (fun hHeld => ?_)
      clear hK K
      refine norm_ (a' := ?_) ?_ ?_
      rotate_left
      · show Act.put _ (some 48) _ = _
        simp only [Act.put, List.setIfInBounds_toArray, List.set_cons_zero, List.set_cons_succ, i64_w, i32_w]
        rfl
      refine one_ (i := 15) (N := some 49) #[true, true, true, true, true, true, true, true, true, true, true, true, true, true, true, true, true, true, true, true, true, true, false, false] rfl rfl (by kernel_rfl) (by decide) (fun K hK => ?_)
      refine value_ (w1 := ?_) (v := ?_) (by rfl) rfl ?_ ?_
      rotate_left 2
      · go_simp
        constructor
        · rfl
        · rfl
      refine hK.out _ _ ⟨((hk8.out.cell (p := ⟨gb, 0, none⟩) hgl (by simp)).trans k0), ((hk8.out.cell (p := ⟨gb, 1, none⟩) hgl (by simp)).trans k1), ((hk8.out.cell (p := ⟨gb, 2, none⟩) hgl (by simp)).trans k2), (cvA _ hk8.out), (cvB _ hk8.out), (cvD _ hk8.out), hk8.out⟩ (fun hHeld => ?_)
      clear hK K
      refine norm_ (a' := ?_) ?_ ?_
      rotate_left
      · show Act.put _ (some 49) _ = _
        simp only [Act.put, List.setIfInBounds_toArray, List.set_cons_zero, List.set_cons_succ, i64_w, i32_w]
        rfl
      refine pure_ (i := 22) (N := some 56) (v := ?_) (a' := ?_) #[true, true, true, true, true, true, true, true, true, true, true, true, true, true, true, true, true, true, true, true, true, true, true, false] rfl rfl (by kernel_rfl) (fun _ _ _ h => h) (Or.inl ⟨by rfl, ?_⟩) ?_ ?_
      rotate_left
      · intro w'
        go_simp
        with_reducible rfl
      rotate_left
      · simp only [Act.put, List.setIfInBounds_toArray, List.set_cons_zero, List.set_cons_succ, i64_w, i32_w]
        rfl
      refine pure_ (i := 23) (N := some 57) (v := ?_) (a' := ?_) #[true, true, true, true, true, true, true, true, true, true, true, true, true, true, true, true, true, true, true, true, true, true, true, true] rfl rfl (by kernel_rfl) (fun _ _ _ h => h) (Or.inl ⟨by rfl, ?_⟩) ?_ ?_
      rotate_left
      · intro w'
        go_simp
        with_reducible rfl
      rotate_left
      · simp only [Act.put, List.setIfInBounds_toArray, List.set_cons_zero, List.set_cons_succ, i64_w, i32_w]
        rfl
      refine done_ (by kernel_rfl) ?_

      go_wp2
      go_roundw
      case rel => exact ⟨j + 1, c6, o6, by omega, rfl, by go_num, HN7.out.kp hk8.out, B5.out.next hk8.out⟩
      case measure => simp [intOf]; omega
    · have hjm : j = m := by omega
      subst hjm
      have HDr := Lib.hid (HD.out.kp_ge BX.out.kp)
      have HTr := Lib.hid (HT.out.kp BX.out.kp)
      have hnames : (d.files.take j).map F.name = names d.files := by rw [HM.out, List.take_length]; rfl
      have HNM : Hid (NamesV wr (w.heap.size + 1) (.slice on j cn) (names d.files)) := by rw [← hnames]; exact HNS.out
      have HNL : Hid ((names d.files).length = d.files.length) := by show _ = _; simp [names]
      have HNB : Hid ((names d.files).length ≤ 9223372036854775807) := by show _ ≤ _; rw [HNL.out, ← HM.out]; omega
      have hkz : Kp [] wr.heap.size wr wr.drew := (Kp.refl _ _ _).drew 1
      have hbz : w.heap.size < wr.heap.size := by have := BX.out.size; omega
      obtain ⟨q0, q1, q2, q3, q4⟩ := boxT BX.out.box
      clear hnames HNS e0 e4
      go_upto_region 10 with fail
      refine start_ (n := 19) (S := fun w' => w'.cell? ⟨w.heap.size, 0, none⟩ = some (.slice ao j cap) ∧ w'.cell? ⟨w.heap.size, 1, none⟩ = some (.int .i64 (d.room : Int)) ∧ w'.cell? ⟨w.heap.size, 2, none⟩ = some (.bool d.fuse.isSome) ∧ w'.cell? ⟨w.heap.size, 3, none⟩ = some (.int .i64 left) ∧ w'.cell? ⟨w.heap.size, 4, none⟩ = some (.bool d.dead) ∧ Kp [] wr.heap.size wr w') (ds := []) #[false, false, false, false, false, false, false, false, false, false, false, false, false, false, false, false, false, false, false] (by kernel_rfl) rfl rfl ⟨(by exact q0), (by exact q1), (by exact q2), (by exact q3), (by exact q4), hkz⟩ (fun hHeld => ?_)
      refine pure_ (i := 0) (N := some 58) (v := ?_) (a' := ?_) #[true, false, false, false, false, false, false, false, false, false, false, false, false, false, false, false, false, false, false] rfl rfl (by kernel_rfl) (fun _ _ _ h => h) (Or.inl ⟨by rfl, ?_⟩) ?_ ?_
      rotate_left
      · intro w'
        go_simp
        with_reducible rfl
      rotate_left
      · simp only [Act.put, List.setIfInBounds_toArray, List.set_cons_zero, List.set_cons_succ, i64_w, i32_w]
        rfl
      refine pure_ (i := 2) (N := some 60) (v := ?_) (a' := ?_) #[true, false, true, false, false, false, false, false, false, false, false, false, false, false, false, false, false, false, false] rfl rfl (by kernel_rfl) (fun _ _ _ h => h) (Or.inl ⟨by rfl, ?_⟩) ?_ ?_
      rotate_left
      · intro w'
        go_simp
        with_reducible rfl
      rotate_left
      · simp only [Act.put, List.setIfInBounds_toArray, List.set_cons_zero, List.set_cons_succ, i64_w, i32_w]
        rfl
      refine one_ (i := 1) (N := some 59) #[true, true, true, false, false, false, false, false, false, false, false, false, false, false, false, false, false, false, false] rfl rfl (by kernel_rfl) (by decide) (fun K hK => ?_)
      refine goes_ Try.func29 (by kernel_rfl) rfl #[.pointer (some ⟨p, 0, none⟩)] (by rfl) rfl rfl (by simp only [List.map_toArray, List.map_cons, List.map_nil]; rfl) ?_
      with_reducible refine (dNames A _ _ d _ (HDr.out.kp_ge hHeld.2.2.2.2.2)).mono ?_
      rintro e w6 ⟨v6, rfl, ho6, hk6⟩
      refine ⟨_, rfl, ?_⟩
      have HN6 : Hid (NamesV w6 wr.heap.size v6 (names d.files)) := by show NamesV _ _ _ _; unfold NamesV; rw [HNL.out]; exact ho6
      obtain ⟨o6, c6, rfl, -, -⟩ := HN6.out.shape
      have hk6 := Lib.hid (hHeld.2.2.2.2.2.trans (hk6.mono (by simp) hHeld.2.2.2.2.2.size))
      clear ho6
      refine hK.out _ _ ⟨((hk6.out.cell (p := ⟨w.heap.size, 0, none⟩) hbz (by simp)).trans q0), ((hk6.out.cell (p := ⟨w.heap.size, 1, none⟩) hbz (by simp)).trans q1), ((hk6.out.cell (p := ⟨w.heap.size, 2, none⟩) hbz (by simp)).trans q2), ((hk6.out.cell (p := ⟨w.heap.size, 3, none⟩) hbz (by simp)).trans q3), ((hk6.out.cell (p := ⟨w.heap.size, 4, none⟩) hbz (by simp)).trans q4), hk6.out⟩ (fun hHeld => ?_)
      clear hK K
      refine norm_ (a' := ?_) ?_ ?_
      rotate_left
      · show Act.put _ (some 59) _ = _
        simp only [Act.put, List.setIfInBounds_toArray, List.set_cons_zero, List.set_cons_succ, i64_w, i32_w]
        rfl
      refine one_ (i := 3) (N := some 61) #[true, true, true, true, false, false, false, false, false, false, false, false, false, false, false, false, false, false, false] rfl rfl (by kernel_rfl) (by decide) (fun K hK => ?_)
      refine goes_ Try.func72 (by kernel_rfl) rfl #[.slice o6 (names d.files).length c6, .slice on j cn] (by rfl) rfl rfl (by simp only [List.map_toArray, List.map_cons, List.map_nil]; rfl) ?_
      with_reducible refine (lsameT _ _ (names d.files) _ HN6.out (HNM.out.kp hk6.out) HNB.out).mono ?_
      rintro e w7 ⟨rfl, q7, hq7⟩
      refine ⟨_, rfl, ?_⟩
      have hk7 : Hid (Kp [] wr.heap.size wr w7) := by rw [hq7]; exact hk6.out.drew q7
      clear hq7
      refine hK.out _ _ ⟨((hk7.out.cell (p := ⟨w.heap.size, 0, none⟩) hbz (by simp)).trans q0), ((hk7.out.cell (p := ⟨w.heap.size, 1, none⟩) hbz (by simp)).trans q1), ((hk7.out.cell (p := ⟨w.heap.size, 2, none⟩) hbz (by simp)).trans q2), ((hk7.out.cell (p := ⟨w.heap.size, 3, none⟩) hbz (by simp)).trans q3), ((hk7.out.cell (p := ⟨w.heap.size, 4, none⟩) hbz (by simp)).trans q4), hk7.out⟩ (fun hHeld => ?_)
      clear hK K
      refine norm_ (a' := ?_) ?_ ?_
      rotate_left
      · show Act.put _ (some 61) _ = _
        simp only [Act.put, List.setIfInBounds_toArray, List.set_cons_zero, List.set_cons_succ, i64_w, i32_w]
        rfl
      refine pure_ (i := 4) (N := some 62) (v := ?_) (a' := ?_) #[true, true, true, true, true, false, false, false, false, false, false, false, false, false, false, false, false, false, false] rfl rfl (by kernel_rfl) (fun _ _ _ h => h) (Or.inl ⟨by rfl, ?_⟩) ?_ ?_
      rotate_left
      · intro w'
        go_simp
        with_reducible rfl
      rotate_left
      · simp only [Act.put, List.setIfInBounds_toArray, List.set_cons_zero, List.set_cons_succ, i64_w, i32_w]
        rfl
      refine pure_ (i := 5) (N := some 63) (v := ?_) (a' := ?_) #[true, true, true, true, true, true, false, false, false, false, false, false, false, false, false, false, false, false, false] rfl rfl (by kernel_rfl) (fun _ _ _ h => h) (Or.inl ⟨by rfl, ?_⟩) ?_ ?_
      rotate_left
      · intro w'
        go_simp
        with_reducible rfl
      rotate_left
      · simp only [Act.put, List.setIfInBounds_toArray, List.set_cons_zero, List.set_cons_succ, i64_w, i32_w]
        rfl
      refine take_ (i := 7) (N := some 65) (v := ?_) (a' := ?_) #[true, true, true, true, true, true, false, true, false, false, false, false, false, false, false, false, false, false, false] rfl rfl (by kernel_rfl) (fun _ _ _ h => h) (Or.inl ⟨by rfl, ?_⟩) hHeld ?_ ?_
      rotate_left
      · rintro w' ⟨s0, s1, s2, s3, s4, s5⟩
        go_simp
        with_reducible rfl
      rotate_left
      · simp only [Act.put, List.setIfInBounds_toArray, List.set_cons_zero, List.set_cons_succ, i64_w, i32_w]
        rfl
      refine one_ (i := 6) (N := some 64) #[true, true, true, true, true, true, true, true, false, false, false, false, false, false, false, false, false, false, false] rfl rfl (by kernel_rfl) (by decide) (fun K hK => ?_)
      refine goes_ Try.func31 (by kernel_rfl) rfl #[.pointer (some ⟨p, 0, none⟩)] (by rfl) rfl rfl (by simp only [List.map_toArray, List.map_cons, List.map_nil]; rfl) ?_
      with_reducible refine (dUsed A _ _ d _ (HDr.out.kp_ge hHeld.2.2.2.2.2)).mono ?_
      rintro e w8 ⟨rfl, hk8⟩
      refine ⟨_, rfl, ?_⟩
      have hk8 := Lib.hid (hHeld.2.2.2.2.2.trans (hk8.mono (by simp) hHeld.2.2.2.2.2.size))
      refine hK.out _ _ ⟨((hk8.out.cell (p := ⟨w.heap.size, 0, none⟩) hbz (by simp)).trans q0), ((hk8.out.cell (p := ⟨w.heap.size, 1, none⟩) hbz (by simp)).trans q1), ((hk8.out.cell (p := ⟨w.heap.size, 2, none⟩) hbz (by simp)).trans q2), ((hk8.out.cell (p := ⟨w.heap.size, 3, none⟩) hbz (by simp)).trans q3), ((hk8.out.cell (p := ⟨w.heap.size, 4, none⟩) hbz (by simp)).trans q4), hk8.out⟩ (fun hHeld => ?_)
      clear hK K
      refine norm_ (a' := ?_) ?_ ?_
      rotate_left
      · show Act.put _ (some 64) _ = _
        simp only [Act.put, List.setIfInBounds_toArray, List.set_cons_zero, List.set_cons_succ, i64_w, i32_w]
        rfl
      refine one_ (i := 8) (N := some 66) #[true, true, true, true, true, true, true, true, true, false, false, false, false, false, false, false, false, false, false] rfl rfl (by kernel_rfl) (by decide) (fun K hK => ?_)
      refine goes_ Try.func73 (by kernel_rfl) rfl #[.agg #[.slice ao j cap, .int .i64 (d.room : Int), .bool d.fuse.isSome, .int .i64 left, .bool d.dead]] (by rfl) rfl rfl (by simp only [List.map_toArray, List.map_cons, List.map_nil]; rfl) ?_
      with_reducible refine (rUsed d _ _ (HTr.out.kp hHeld.2.2.2.2.2)).mono ?_
      rintro e w9 ⟨rfl, hk9⟩
      refine ⟨_, rfl, ?_⟩
      have hk9 := Lib.hid (hHeld.2.2.2.2.2.trans (hk9.mono (by simp) hHeld.2.2.2.2.2.size))
      refine hK.out _ _ ⟨((hk9.out.cell (p := ⟨w.heap.size, 0, none⟩) hbz (by simp)).trans q0), ((hk9.out.cell (p := ⟨w.heap.size, 1, none⟩) hbz (by simp)).trans q1), ((hk9.out.cell (p := ⟨w.heap.size, 2, none⟩) hbz (by simp)).trans q2), ((hk9.out.cell (p := ⟨w.heap.size, 3, none⟩) hbz (by simp)).trans q3), ((hk9.out.cell (p := ⟨w.heap.size, 4, none⟩) hbz (by simp)).trans q4), hk9.out⟩ (fun hHeld => ?_)
      clear hK K
      refine norm_ (a' := ?_) ?_ ?_
      rotate_left
      · show Act.put _ (some 66) _ = _
        simp only [Act.put, List.setIfInBounds_toArray, List.set_cons_zero, List.set_cons_succ, i64_w, i32_w]
        rfl
      refine pure_ (i := 9) (N := some 67) (v := ?_) (a' := ?_) #[true, true, true, true, true, true, true, true, true, true, false, false, false, false, false, false, false, false, false] rfl rfl (by kernel_rfl) (fun _ _ _ h => h) (Or.inl ⟨by rfl, ?_⟩) ?_ ?_
      rotate_left
      · intro w'
        go_simp
        with_reducible rfl
      rotate_left
      · simp only [Act.put, List.setIfInBounds_toArray, List.set_cons_zero, List.set_cons_succ, i64_w, i32_w]
        rfl
      refine pure_ (i := 10) (N := some 68) (v := ?_) (a' := ?_) #[true, true, true, true, true, true, true, true, true, true, true, false, false, false, false, false, false, false, false] rfl rfl (by kernel_rfl) (fun _ _ _ h => h) (Or.inl ⟨by rfl, ?_⟩) ?_ ?_
      rotate_left
      · intro w'
        go_simp
        with_reducible rfl
      rotate_left
      · simp only [Act.put, List.setIfInBounds_toArray, List.set_cons_zero, List.set_cons_succ, i64_w, i32_w]
        rfl
      refine pure_ (i := 11) (N := some 69) (v := ?_) (a' := ?_) #[true, true, true, true, true, true, true, true, true, true, true, true, false, false, false, false, false, false, false] rfl rfl (by kernel_rfl) (fun _ _ _ h => h) (Or.inl ⟨by rfl, ?_⟩) ?_ ?_
      rotate_left
      · intro w'
        go_simp
        with_reducible rfl
      rotate_left
      · simp only [Act.put, List.setIfInBounds_toArray, List.set_cons_zero, List.set_cons_succ, i64_w, i32_w]
        rfl
      refine pure_ (i := 12) (N := some 70) (v := ?_) (a' := ?_) #[true, true, true, true, true, true, true, true, true, true, true, true, true, false, false, false, false, false, false] rfl rfl (by kernel_rfl) (fun _ _ _ h => h) (Or.inl ⟨by rfl, ?_⟩) ?_ ?_
      rotate_left
      · intro w'
        go_simp
        with_reducible rfl
      rotate_left
      · simp only [Act.put, List.setIfInBounds_toArray, List.set_cons_zero, List.set_cons_succ, i64_w, i32_w]
        rfl
      refine pure_ (i := 14) (N := some 72) (v := ?_) (a' := ?_) #[true, true, true, true, true, true, true, true, true, true, true, true, true, false, true, false, false, false, false] rfl rfl (by kernel_rfl) (fun _ _ _ h => h) (Or.inl ⟨by rfl, ?_⟩) ?_ ?_
      rotate_left
      · intro w'
        go_simp
        with_reducible rfl
      rotate_left
      · simp only [Act.put, List.setIfInBounds_toArray, List.set_cons_zero, List.set_cons_succ, i64_w, i32_w]
        rfl
      refine take_ (i := 15) (N := some 73) (v := ?_) (a' := ?_) #[true, true, true, true, true, true, true, true, true, true, true, true, true, false, true, true, false, false, false] rfl rfl (by kernel_rfl) (fun _ _ _ h => h) (Or.inl ⟨by rfl, ?_⟩) hHeld ?_ ?_
      rotate_left
      · rintro w' ⟨s0, s1, s2, s3, s4, s5⟩
        go_simp
        with_reducible rfl
      rotate_left
      · simp only [Act.put, List.setIfInBounds_toArray, List.set_cons_zero, List.set_cons_succ, i64_w, i32_w]
        rfl
      refine one_ (i := 13) (N := some 71) #[true, true, true, true, true, true, true, true, true, true, true, true, true, true, true, true, false, false, false] rfl rfl (by kernel_rfl) (by decide) (fun K hK => ?_)
      refine goes_ Try.func21 (by kernel_rfl) rfl #[.pointer (some ⟨p, 0, none⟩)] (by rfl) rfl rfl (by simp only [List.map_toArray, List.map_cons, List.map_nil]; rfl) ?_
      with_reducible refine (dDead A _ _ d _ (HDr.out.kp_ge hHeld.2.2.2.2.2)).mono ?_
      rintro e w10 ⟨rfl, rfl⟩
      refine ⟨_, rfl, ?_⟩
      refine hK.out _ _ ⟨(by exact hHeld.1), (by exact hHeld.2.1), (by exact hHeld.2.2.1), (by exact hHeld.2.2.2.1), (by exact hHeld.2.2.2.2.1), (by exact hHeld.2.2.2.2.2)⟩ (fun hHeld => ?_)
      clear hK K
      refine norm_ (a' := ?_) ?_ ?_
      rotate_left
      · show Act.put _ (some 71) _ = _
        simp only [Act.put, List.setIfInBounds_toArray, List.set_cons_zero, List.set_cons_succ, i64_w, i32_w]
        rfl
      refine pure_ (i := 16) (N := some 74) (v := ?_) (a' := ?_) #[true, true, true, true, true, true, true, true, true, true, true, true, true, true, true, true, true, false, false] rfl rfl (by kernel_rfl) (fun _ _ _ h => h) (Or.inl ⟨by rfl, ?_⟩) ?_ ?_
      rotate_left
      · intro w'
        go_simp
        with_reducible rfl
      rotate_left
      · simp only [Act.put, List.setIfInBounds_toArray, List.set_cons_zero, List.set_cons_succ, i64_w, i32_w]
        rfl
      refine pure_ (i := 17) (N := some 75) (v := ?_) (a' := ?_) #[true, true, true, true, true, true, true, true, true, true, true, true, true, true, true, true, true, true, false] rfl rfl (by kernel_rfl) (fun _ _ _ h => h) (Or.inl ⟨by rfl, ?_⟩) ?_ ?_
      rotate_left
      · intro w'
        go_simp
        with_reducible rfl
      rotate_left
      · simp only [Act.put, List.setIfInBounds_toArray, List.set_cons_zero, List.set_cons_succ, i64_w, i32_w]
        rfl
      refine pure_ (i := 18) (N := some 4) (v := ?_) (a' := ?_) #[true, true, true, true, true, true, true, true, true, true, true, true, true, true, true, true, true, true, true] rfl rfl (by kernel_rfl) (fun _ _ _ h => h) (Or.inl ⟨by rfl, ?_⟩) ?_ ?_
      rotate_left
      · intro w'
        go_simp
        with_reducible rfl
      rotate_left
      · simp only [Act.put, List.setIfInBounds_toArray, List.set_cons_zero, List.set_cons_succ, i64_w, i32_w]
        rfl
      refine done_ (by kernel_rfl) ?_

      go_wp2
      go_ret
      exact ⟨by simp, BX.out.kp.trans (hk9.out.mono (by simp) (by omega))⟩
end Go.Proofs.Ytdabflkejhoghaa.Hand
