/- NumBack: for every number and every width: what was put into so many bytes is there again; with fewer bytes it is what is left of it. No condition. -/
import Derived.Test.YtclmjhpbhmbdaaaPNumBackx1
namespace Go.Proofs.Ytclmjhpbhmbdaaa.Pure
open Go.RowKit Go.Proofs.Ytclmjhpbhmbdaaa.PNumBack Go.Proofs.YtclmjhpbhmbdaaaW.PrintWords Go.Proofs.YtclmjhpbhmbdaaaW.PrintLast

theorem w64 (x : Int) : IntKind.u64.wrap x = x % 18446744073709551616 := IntKind.wrap_u64 x
theorem r64 (a : Int) (h : (Lit.int .u64 a).wf = true) : 0 ≤ a ∧ a < 18446744073709551616 := by
  simp [Lit.wf, IntKind.min, IntKind.max, IntKind.bits, IntKind.signed] at h; omega
theorem r32 (a : Int) (h : (Lit.int .u32 a).wf = true) : 0 ≤ a ∧ a < 4294967296 := by
  simp [Lit.wf, IntKind.min, IntKind.max, IntKind.bits, IntKind.signed] at h; omega
theorem r16 (a : Int) (h : (Lit.int .u16 a).wf = true) : 0 ≤ a ∧ a < 65536 := by
  simp [Lit.wf, IntKind.min, IntKind.max, IntKind.bits, IntKind.signed] at h; omega
theorem r8 (a : Int) (h : (Lit.int .u8 a).wf = true) : 0 ≤ a ∧ a < 256 := by
  simp [Lit.wf, IntKind.min, IntKind.max, IntKind.bits, IntKind.signed] at h; omega
theorem known : wicketmanlaw01_known.f = some true := by kernel_rfl

theorem getV_putL (n : Int) (hn : 0 ≤ n) (k : Nat) : ∀ m : Int, Hand.getV (Hand.putL n k) m = m * 256 ^ k + n % 256 ^ k := by
  induction k with
  | zero => intro m; simp [Hand.putL, Hand.getV, Int.emod_one]
  | succ k ih =>
    intro m
    unfold Hand.putL Hand.getV
    rw [ih]
    have hp : (0 : Int) < 256 ^ k := Int.pow_pos (by decide)
    obtain ⟨p, hpe⟩ : ∃ p : Int, p = 256 ^ k := ⟨_, rfl⟩
    rw [Int.pow_succ, ← hpe]
    rw [← hpe] at hp
    have h1 : n % (p * 256) = n % p + p * (n / p % 256) := by
      obtain ⟨N, rfl⟩ := Int.eq_ofNat_of_zero_le hn
      obtain ⟨P, rfl⟩ := Int.eq_ofNat_of_zero_le (Int.le_of_lt hp)
      have := Nat.mod_mul (x := N) (a := P) (b := 256)
      have h := congrArg (fun z : Nat => (z : Int)) this
      simp only [Int.natCast_add, Int.natCast_mul, Int.natCast_emod, Int.natCast_ediv] at h
      exact h
    rw [h1, Int.add_mul, Int.mul_assoc, Int.mul_comm 256 p, Int.mul_comm (n / p % 256) p]
    omega
theorem putL_bytes (n : Int) (k : Nat) : Hand.bytesB (Hand.putL n k) = true := by
  induction k with
  | zero => rfl
  | succ k ih =>
    unfold Hand.putL Hand.bytesB
    rw [List.all_cons]
    have h : Hand.bytesB (Hand.putL n k) = true := ih
    unfold Hand.bytesB at h
    rw [h, Bool.and_true, Bool.and_eq_true, decide_eq_true_eq, decide_eq_true_eq]
    omega
theorem put_eq (n w : Int) : Hand.num_Put.f n w = some (Hand.putL n (mx 0 (mn w 8)).toNat) := rfl
theorem get_put (n : Int) (hn : 0 ≤ n) (k : Nat) (hk : k ≤ 8) : Hand.num_Get.f (Hand.putL n k) = some (n % 256 ^ k) := by
  unfold Hand.num_Get.f
  rw [if_pos ⟨putL_bytes n k, by rw [Hand.putL_length]; omega⟩, Hand.putL_length, show k - 8 = 0 by omega, List.drop_zero, getV_putL n hn]
  simp

theorem NumBack : wicketmanlaw01_NumBack.Pure := by
  intro n k hn hk
  replace hn := r64 n hn
  replace hk := r8 k hk
  refine ⟨1, ?_⟩
  obtain ⟨w, hw⟩ : ∃ w : Nat, k % 9 = w := ⟨(k % 9).toNat, by omega⟩
  have hw9 : w < 9 := by omega
  have e0 : Int.tmod k 9 = w := by rw [Int.tmod_eq_emod_of_nonneg hk.1]; exact hw
  have e1 : wrap64 (w : Int) = w := by unfold wrap64; omega
  have e2 : wrap64 (8 * (w : Int)) = 8 * w := by unfold wrap64; omega
  have e3 : IntKind.u64.wrap (8 * (w : Int)) = 8 * w := by rw [w64]; omega
  have em : (mx 0 (mn (w : Int) 8)).toNat = w := by unfold mx mn; split <;> split <;> omega
  have em8 : (mx 0 (mn (8 : Int) 8)).toNat = 8 := by decide
  have p8 : (256 : Int) ^ 8 = 18446744073709551616 := by decide
  have key : wicketmanlaw01_NumBack.j0 1 n w (n % 256 ^ w) = some true := by
    simp only [wicketmanlaw01_NumBack.j0, put_eq, em, em8, known, Option.bind_some, if_true, get_put n hn.1 w (by omega), get_put n hn.1 8 (by omega), Hand.putL_length, p8]
    rw [Int.emod_eq_of_lt hn.1 hn.2]; simp
  unfold wicketmanlaw01_NumBack.f
  rw [e0, e1, e2, e3]
  by_cases h8 : w < 8
  · rw [if_pos (by omega), if_pos (by omega)]
    have es : shl .u64 1 (8 * (w : Int)) = 256 ^ w := by
      have : w = 0 ∨ w = 1 ∨ w = 2 ∨ w = 3 ∨ w = 4 ∨ w = 5 ∨ w = 6 ∨ w = 7 := by omega
      rcases this with h | h | h | h | h | h | h | h <;> subst h <;> decide
    rw [es, if_neg (by have : (0 : Int) < 256 ^ w := Int.pow_pos (by decide); omega), Int.tmod_eq_emod_of_nonneg hn.1]
    exact key
  · rw [if_neg (by omega)]
    have : w = 8 := by omega
    subst this
    have h9 : n % 256 ^ 8 = n := by rw [p8]; exact Int.emod_eq_of_lt hn.1 hn.2
    rw [h9] at key
    exact key

end Go.Proofs.Ytclmjhpbhmbdaaa.Pure
