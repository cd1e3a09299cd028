/- fill: Parse's contract over this law's own structs. -/
import Derived.Test.YtjbghpkdehikfaaDoorPFillPrintsx0
import Derived.Test.YtjbghpkdehikfaaDoorHCon
namespace Go.Proofs.YtjbghpkdehikfaaDoor.PFillPrints.HandP
open Go.RowKit Go.Proofs.YtjbghpkdehikfaaDoorW.PrintWords Go.Proofs.YtjbghpkdehikfaaDoorW.PrintLast Go.Proofs.YtjbghpkdehikfaaDoorW.PrintMore
set_option linter.unusedVariables false
def mkS (p : Hand.Pr) : S32 := ⟨⟨p.1.toArray⟩, ⟨p.2.toArray⟩⟩
def fill_Parse.f (l0 : List Int) : Option (List S32 × Int) := if l0.length < 140737488355328 then some ((Hand.parseR (Hand.bl (strOfNums l0))).1.map mkS, (Hand.parseR (Hand.bl (strOfNums l0))).2) else none
theorem fill_Parse.calls (A0 : Option Addr) (c0 : Nat) (l0 : List Int) (r1 : List S32) (r2 : Int) (w : World) (hr0 : Kd.C (Kd.int .u8) w A0 l0.length l0) (hc0 : l0.length ≤ c0) (h : fill_Parse.f l0 = some (r1, r2)) :
    Calls Tryd.prog 17 #[.slice A0 l0.length c0] w fun e w' => ∃ v0_ : Value, e = .returned (.tuple #[v0_, .int .u16 r2]) ∧ Kd.R k32 32 w' w.heap.size (fun _ => True) v0_ r1 ∧ Below w.heap.size w w' := by
  unfold fill_Parse.f at h
  by_cases hl : l0.length < 140737488355328
  · rw [if_pos hl] at h
    cases h
    refine (Hand.parse_ints A0 c0 l0 w hr0 hl).mono ?_
    rintro e w' ⟨v, rfl, ho, hb⟩
    exact ⟨v, rfl, Hand.parse_rows (fun x : S32 => (x.f0, x.f1)) mkS (fun _ => rfl) ho, hb⟩
  · rw [if_neg hl] at h; cases h
end Go.Proofs.YtjbghpkdehikfaaDoor.PFillPrints.HandP
