/- NumFronts: for every row of bytes: of more than eight the last eight tell the number; noughts ahead change nothing; of a negative width nothing is put, of a great one eight bytes. No condition. -/
import Derived.Test.YtclmjhpbhmbdaaaPNumFrontsx2
namespace Go.Proofs.Ytclmjhpbhmbdaaa.Pure
open Go.RowKit Go.Proofs.Ytclmjhpbhmbdaaa.PNumFronts Go.Proofs.YtclmjhpbhmbdaaaW.PrintWords Go.Proofs.YtclmjhpbhmbdaaaW.PrintLast

theorem w64 (x : Int) : IntKind.u64.wrap x = x % 18446744073709551616 := IntKind.wrap_u64 x
theorem r64 (a : Int) (h : (Lit.int .u64 a).wf = true) : 0 ≤ a ∧ a < 18446744073709551616 := by
  simp [Lit.wf, IntKind.min, IntKind.max, IntKind.bits, IntKind.signed] at h; omega
theorem r32 (a : Int) (h : (Lit.int .u32 a).wf = true) : 0 ≤ a ∧ a < 4294967296 := by
  simp [Lit.wf, IntKind.min, IntKind.max, IntKind.bits, IntKind.signed] at h; omega
theorem r16 (a : Int) (h : (Lit.int .u16 a).wf = true) : 0 ≤ a ∧ a < 65536 := by
  simp [Lit.wf, IntKind.min, IntKind.max, IntKind.bits, IntKind.signed] at h; omega
theorem r8 (a : Int) (h : (Lit.int .u8 a).wf = true) : 0 ≤ a ∧ a < 256 := by
  simp [Lit.wf, IntKind.min, IntKind.max, IntKind.bits, IntKind.signed] at h; omega
theorem known : wicketmanlaw01_known.f = some true := by kernel_rfl

theorem getV_zeros (z : Nat) (l : List Int) : HandQ.getV (List.replicate z 0 ++ l) 0 = HandQ.getV l 0 := by
  induction z with
  | zero => rfl
  | succ z ih =>
    rw [List.replicate_succ, List.cons_append]
    exact ih
theorem get_eq (l : List Int) (h : HandQ.bytesB l = true) (hl : l.length ≤ 1000) : HandQ.num_Get.f l = some (HandQ.getV (l.drop (l.length - 8)) 0) := by
  unfold HandQ.num_Get.f
  rw [if_pos ⟨h, by omega⟩]
theorem front (z : Nat) (l : List Int) : HandQ.getV ((List.replicate z 0 ++ l).drop ((List.replicate z 0 ++ l).length - 8)) 0 = HandQ.getV (l.drop (l.length - 8)) 0 := by
  have hl : (List.replicate z (0 : Int) ++ l).length = z + l.length := by simp
  rw [hl]
  by_cases h : 8 ≤ l.length
  · have e : z + l.length - 8 = (List.replicate z (0 : Int)).length + (l.length - 8) := by simp; omega
    rw [e, List.drop_append, List.drop_eq_nil_of_le (by omega), List.nil_append, Nat.add_sub_cancel_left]
  · have e : l.length - 8 = 0 := by omega
    rw [e, List.drop_zero, List.drop_append_of_le_length (by simp; omega), List.drop_replicate]
    exact getV_zeros _ _
theorem back (l : List Int) : HandQ.getV ((l.drop (l.length - 8)).drop ((l.drop (l.length - 8)).length - 8)) 0 = HandQ.getV (l.drop (l.length - 8)) 0 := by
  have e : (l.drop (l.length - 8)).length - 8 = 0 := by rw [List.length_drop]; omega
  rw [e, List.drop_zero]
theorem bytesB_zeros (z : Nat) (l : List Int) (h : HandQ.bytesB l = true) : HandQ.bytesB (List.replicate z 0 ++ l) = true := by
  unfold HandQ.bytesB at *
  rw [List.all_append, h, Bool.and_true, List.all_eq_true]
  intro x hx
  have := (List.mem_replicate.1 hx).2
  subst this; rfl
theorem NumFronts : wicketmanlaw01_NumFronts.Pure := by
  intro l a hm hl hb ha
  replace ha := r8 a ha
  have hbb : HandQ.bytesB l = true := by
    unfold HandQ.bytesB
    rw [List.all_eq_true]
    intro x hx
    have := r8 x (hb x hx)
    simp; omega
  clear hb
  unfold wicketmanlaw01_NumFronts.f
  by_cases h60 : (l.length : Int) > 60
  · rw [if_pos h60, known]; rfl
  · rw [if_neg h60]
    have e0 : Int.tmod a 20 = a % 20 := Int.tmod_eq_emod_of_nonneg ha.1
    have e1 : wrap64 (a % 20) = a % 20 := by unfold wrap64; omega
    rw [e0, e1]
    clear e0 e1
    obtain ⟨z, hz⟩ : ∃ z : Nat, a % 20 = z := ⟨(a % 20).toNat, by omega⟩
    have hz20 : z < 20 := by omega
    rw [hz]
    have hl60 : l.length ≤ 60 := by omega
    have em : mx 0 (wrap64 ((l.length : Int) - 8)) = ((l.length - 8 : Nat) : Int) := by unfold mx wrap64; split <;> omega
    have c1 : 0 ≤ (z : Int) := by omega
    have c2 : (z : Int).toNat ≤ 281474976710656 := by omega
    rw [if_pos c1, if_pos c2, Int.toNat_natCast, Option.bind_some]
    have c3 : (List.replicate z (0 : Int)).length + l.length < 140737488355328 := by simp; omega
    rw [if_pos c3, known]
    simp only [Option.bind_some, if_true, em, Int.toNat_natCast]
    have c4 : (0 : Int) ≤ ((l.length - 8 : Nat) : Int) := by omega
    have c5 : ((l.length - 8 : Nat) : Int) ≤ (l.length : Int) := by omega
    rw [get_eq l hbb (by omega), get_eq _ (HandQ.bytesB_drop l _ hbb) (by rw [List.length_drop]; omega), get_eq _ (bytesB_zeros z l hbb) (by simp; omega), back, front]
    simp only [Option.bind_some]
    rw [if_pos c4, if_pos c5]
    simp only [if_true]
    rfl

end Go.Proofs.Ytclmjhpbhmbdaaa.Pure
