/- Structs that come in by value, opened: rules, sessions, users. -/
import Derived.Test.YtclmjhpbhmbdaaaProg
import Derived.WalkKit
import Derived.ProofKit
import Derived.OpenShut
import Derived.ShutString
import Derived.ChangeOld
import Derived.Below
import Derived.SizedLaws
import Derived.Lib.SmallJoins
import Derived.Deep.Fields
import Derived.Deep.Slices
namespace Go.Proofs.Ytclmjhpbhmbdaaa.Hand
open Go.ChangeShapes Go.WideShapes Go.ChangeAt Go.RowKit Go.Joins Go.Deep

section
variable {H : Type} {enc : TypeId × Value → H} {P : Program} {w : World} {base : Nat} {spare : Nat → Bool} {held : Bool}
/-- a struct by value: as many cells as fields, each read as its field's type is -/
theorem agg_fields {r : Reach} {b0 : Nat} {t : TypeId} {fs : Array Field} {v : Value} {d : DataW H} {p : List MemPlace} (hs : P.underlying t = some (.struct fs)) (hone : oneCellFields P fs = true) (hC : P.cellsOf t = fs.size)
    (hv : Value.okWide P w r b0 t v) (h : DataW.Trod enc P w base spare held t v d p) :
    ∃ (l : List Value) (n : Nat), v = .agg l.toArray ∧ l.length = fs.size ∧ ∀ (j : Nat) (f : Field), fs[j]? = some f → ∃ c y, l[j]? = some c ∧ DataW.trod enc P w base spare held n f.type [c] = some y := by
  obtain ⟨cs, rfl, hsz⟩ := okWide_struct hs hv
  obtain ⟨l⟩ := cs
  obtain ⟨fuel, hf⟩ := h
  obtain ⟨xs, n, _, _, hlen, hxl, hg⟩ := DataW.trod_struct hs hf
  have hl : l.length = fs.size := hsz.trans hC
  refine ⟨l, n, rfl, hl, fun j f hj => ?_⟩
  obtain ⟨ho, hk⟩ := hone_of hone j f hj
  have hjf : j < fs.size := (Array.getElem?_eq_some_iff.1 hj).1
  have hjl : j < l.length := by omega
  have h1 := hg j f hj
  rw [ho, hk] at h1
  have h2 : (List.drop j (Value.agg l.toArray).cells.toList).take 1 = [l[j]] := by
    show (List.drop j l).take 1 = [l[j]]
    rw [List.drop_eq_getElem_cons hjl]; rfl
  rw [h2] at h1
  have hx : xs[j]? = some (xs[j]'(by omega)) := List.getElem?_eq_getElem (by omega)
  exact ⟨_, _, List.getElem?_eq_getElem hjl, h1.trans hx⟩
end

section
variable {H : Type} {enc : TypeId × Value → H} {w : World} {base : Nat} {spare : Nat → Bool} {held : Bool} {r : Reach} {b0 : Nat} {v : Value} {d : DataW H} {p : List MemPlace}
theorem slice_cell {fuel : Nat} {c : Value} {y : DataW H × List MemPlace} (h : DataW.trod enc Try.prog w base spare held fuel 24 [c] = some y) : ∃ A n m, c = .slice A n m := by
  rcases DataW.trod_slice Try.underlying24 h with ⟨e, _⟩ | ⟨a, l, m, _, _, _, _, e, _⟩
  · exact ⟨none, 0, 0, by simpa using e⟩
  · exact ⟨some a, l, m, by simpa using e⟩
theorem int_cell {k : IntKind} {t : TypeId} (ht : Try.prog.underlying t = some (.int k)) {fuel : Nat} {c : Value} {y : DataW H × List MemPlace} (h : DataW.trod enc Try.prog w base spare held fuel t [c] = some y) : ∃ n, c = .int k n ∧ (Lit.int k n).wf = true := by
  obtain ⟨n, e, _, hw⟩ := DataW.trod_int ht h
  exact ⟨n, by simpa using e, hw⟩
theorem str_cell {fuel : Nat} {c : Value} {y : DataW H × List MemPlace} (h : DataW.trod enc Try.prog w base spare held fuel 9 [c] = some y) : ∃ s, c = .string s := by
  obtain ⟨s, e, _⟩ := DataW.trod_string Try.underlying9 h
  exact ⟨s, by simpa using e⟩
theorem bool_cell {fuel : Nat} {c : Value} {y : DataW H × List MemPlace} (h : DataW.trod enc Try.prog w base spare held fuel 4 [c] = some y) : ∃ b, c = .bool b := by
  obtain ⟨b, e, _⟩ := DataW.trod_bool Try.underlying4 h
  exact ⟨b, by simpa using e⟩
theorem open_rules (hv : Value.okWide Try.prog w r b0 26 v) (h : DataW.Trod enc Try.prog w base spare held 26 v d p) :
    ∃ r0 r1 r2 r3 A n c, v = .agg #[.int .u64 r0, .int .u64 r1, .int .u64 r2, .int .i64 r3, .slice A n c] ∧ (Lit.int .u64 r0).wf = true ∧ (Lit.int .u64 r1).wf = true ∧ (Lit.int .u64 r2).wf = true ∧ (Lit.int .i64 r3).wf = true := by
  obtain ⟨l, n, rfl, hl, hf⟩ := agg_fields Try.underlying26 (by kernel_rfl) (by kernel_rfl) hv h
  obtain ⟨c0, y0, e0, t0⟩ := hf 0 _ rfl
  obtain ⟨c1, y1, e1, t1⟩ := hf 1 _ rfl
  obtain ⟨c2, y2, e2, t2⟩ := hf 2 _ rfl
  obtain ⟨c3, y3, e3, t3⟩ := hf 3 _ rfl
  obtain ⟨c4, y4, e4, t4⟩ := hf 4 _ rfl
  obtain ⟨x0, rfl, w0⟩ := int_cell Try.underlying23 t0
  obtain ⟨x1, rfl, w1⟩ := int_cell Try.underlying23 t1
  obtain ⟨x2, rfl, w2⟩ := int_cell Try.underlying23 t2
  obtain ⟨x3, rfl, w3⟩ := int_cell Try.underlying3 t3
  obtain ⟨A, m, c, rfl⟩ := slice_cell t4
  match l, hl with
  | [a0, a1, a2, a3, a4], _ =>
    simp at e0 e1 e2 e3 e4
    subst e0 e1 e2 e3 e4
    exact ⟨x0, x1, x2, x3, A, m, c, rfl, w0, w1, w2, w3⟩
theorem open_session (hv : Value.okWide Try.prog w r b0 28 v) (h : DataW.Trod enc Try.prog w base spare held 28 v d p) :
    ∃ i u born seen dead, v = .agg #[.string i, .string u, .int .u64 born, .int .u64 seen, .bool dead] ∧ (Lit.int .u64 born).wf = true ∧ (Lit.int .u64 seen).wf = true := by
  obtain ⟨l, n, rfl, hl, hf⟩ := agg_fields Try.underlying28 (by kernel_rfl) (by kernel_rfl) hv h
  obtain ⟨c0, y0, e0, t0⟩ := hf 0 _ rfl
  obtain ⟨c1, y1, e1, t1⟩ := hf 1 _ rfl
  obtain ⟨c2, y2, e2, t2⟩ := hf 2 _ rfl
  obtain ⟨c3, y3, e3, t3⟩ := hf 3 _ rfl
  obtain ⟨c4, y4, e4, t4⟩ := hf 4 _ rfl
  obtain ⟨x0, rfl⟩ := str_cell t0
  obtain ⟨x1, rfl⟩ := str_cell t1
  obtain ⟨x2, rfl, w2⟩ := int_cell Try.underlying23 t2
  obtain ⟨x3, rfl, w3⟩ := int_cell Try.underlying23 t3
  obtain ⟨x4, rfl⟩ := bool_cell t4
  match l, hl with
  | [a0, a1, a2, a3, a4], _ =>
    simp at e0 e1 e2 e3 e4
    subst e0 e1 e2 e3 e4
    exact ⟨x0, x1, x2, x3, x4, rfl, w2, w3⟩
theorem open_user (hv : Value.okWide Try.prog w r b0 39 v) (h : DataW.Trod enc Try.prog w base spare held 39 v d p) :
    ∃ s A1 n1 c1 A2 n2 c2 o fails last, v = .agg #[.string s, .slice A1 n1 c1, .slice A2 n2 c2, .string o, .int .i64 fails, .int .u64 last] ∧ (Lit.int .i64 fails).wf = true ∧ (Lit.int .u64 last).wf = true := by
  obtain ⟨l, n, rfl, hl, hf⟩ := agg_fields Try.underlying39 (by kernel_rfl) (by kernel_rfl) hv h
  obtain ⟨c0, y0, e0, t0⟩ := hf 0 _ rfl
  obtain ⟨c1, y1, e1, t1⟩ := hf 1 _ rfl
  obtain ⟨c2, y2, e2, t2⟩ := hf 2 _ rfl
  obtain ⟨c3, y3, e3, t3⟩ := hf 3 _ rfl
  obtain ⟨c4, y4, e4, t4⟩ := hf 4 _ rfl
  obtain ⟨c5, y5, e5, t5⟩ := hf 5 _ rfl
  obtain ⟨x0, rfl⟩ := str_cell t0
  obtain ⟨A1, n1, m1, rfl⟩ := slice_cell t1
  obtain ⟨A2, n2, m2, rfl⟩ := slice_cell t2
  obtain ⟨x3, rfl⟩ := str_cell t3
  obtain ⟨x4, rfl, w4⟩ := int_cell Try.underlying3 t4
  obtain ⟨x5, rfl, w5⟩ := int_cell Try.underlying23 t5
  match l, hl with
  | [a0, a1, a2, a3, a4, a5], _ =>
    simp at e0 e1 e2 e3 e4 e5
    subst e0 e1 e2 e3 e4 e5
    exact ⟨x0, A1, n1, m1, A2, n2, m2, x3, x4, x5, rfl, w4, w5⟩
end
end Go.Proofs.Ytclmjhpbhmbdaaa.Hand
