/-
  No cell of these rows narrows 'for every input' (looked for: loops, veiled, ifaces, maps, wideKeys, modest, calm, conditions, laid).
  DERIVED. THE GIVEN ROWS OF THIS SEAT. 13 by the template 'for every input the law returns true; each argument reads behind the call as it read before'; 0 by the template 'total and deterministic' (their statements: YtclmjhpbhmbdaaaTotals.lean).
  GIVEN WITH THE SEED: the statements are not yours to turn. If you find one false, say at which input.
  Laid BY PROGRAM, IN A SANDBOX (cutbox-rows.mjs): the forced cells as the released guide's own fill.sh prints them over the translation 263a152c853c6421… (all of the seat's roots in one cut). By AI agents, Wed Nov 11 2026. No macro, syntax, notation, axiom, sorry.
-/
import Derived.Test.YtclmjhpbhmbdaaaChecked
import GoSem.Claim
import GoSem.ClaimJoined
import GoSem.ClaimMapViews
import Derived.JoinedTies
import Derived.KernelRfl
namespace Go.Proofs.Ytclmjhpbhmbdaaa
/- THE CELL 'sum', in the pinned program and in every row, IS THE sha256 OF THE DUMP (.gsa) THAT YtclmjhpbhmbdaaaProg.lean LOADS. Nothing in Lean hashes anything: it is a label: what it is worth is what the hold of that sum in a sandbox is worth. -/
noncomputable def Try.pinned : Pinned := { name := "ytclmjhpbhmbdaaa", sum := "263a152c853c64212e4b31c6f5f14382510450c7651de5adb75740fae55d7247", checked := Try.checked }
namespace Rows
def none {H : Type} : Left H := { results := [], args := [] }

/-- 'wicketmanlaw15.ClockEnds': WHATEVER THE INPUT: true; the input reads as it did. -/
def clockEndsSpec : ChangeSpec := { name := "clockEnds", fn := fun _ => fun
  | [d1, d2, d3, d4, d5, d6] => { results := [.lit (.bool true)], args := [d1, d2, d3, d4, d5, d6] }
  | _ => none }
def clockEndsRow : OpenClaim := { program := "ytclmjhpbhmbdaaa", sum := "263a152c853c64212e4b31c6f5f14382510450c7651de5adb75740fae55d7247", func := "wicketman/wicketmanlaw15.ClockEnds", spec := "clockEnds", apart := false }
def ClockEndsSaid : Prop := clockEndsRow.holds Try.pinned (OpenSpec.ofChange clockEndsSpec)

/-- ITS FALSE NEIGHBOUR: 'it returns false'. Refute it at one input. -/
def clockEndsWrong : ChangeSpec := { name := "clockEnds", fn := fun _ => fun
  | [d1, d2, d3, d4, d5, d6] => { results := [.lit (.bool false)], args := [d1, d2, d3, d4, d5, d6] }
  | _ => none }
def ClockEndsWrongFalsely : Prop := clockEndsRow.holds Try.pinned (OpenSpec.ofChange clockEndsWrong)

/-- 'wicketmanlaw15.ClockWhy': WHATEVER THE INPUT: true; the input reads as it did. -/
def clockWhySpec : ChangeSpec := { name := "clockWhy", fn := fun _ => fun
  | [d1, d2, d3] => { results := [.lit (.bool true)], args := [d1, d2, d3] }
  | _ => none }
def clockWhyRow : OpenClaim := { program := "ytclmjhpbhmbdaaa", sum := "263a152c853c64212e4b31c6f5f14382510450c7651de5adb75740fae55d7247", func := "wicketman/wicketmanlaw15.ClockWhy", spec := "clockWhy", apart := false }
def ClockWhySaid : Prop := clockWhyRow.holds Try.pinned (OpenSpec.ofChange clockWhySpec)

/-- ITS FALSE NEIGHBOUR: 'it returns false'. Refute it at one input. -/
def clockWhyWrong : ChangeSpec := { name := "clockWhy", fn := fun _ => fun
  | [d1, d2, d3] => { results := [.lit (.bool false)], args := [d1, d2, d3] }
  | _ => none }
def ClockWhyWrongFalsely : Prop := clockWhyRow.holds Try.pinned (OpenSpec.ofChange clockWhyWrong)

/-- 'wicketmanlaw15.ClockTicks': WHATEVER THE INPUT: true; the input reads as it did. -/
def clockTicksSpec : ChangeSpec := { name := "clockTicks", fn := fun _ => fun
  | [d1, d2] => { results := [.lit (.bool true)], args := [d1, d2] }
  | _ => none }
def clockTicksRow : OpenClaim := { program := "ytclmjhpbhmbdaaa", sum := "263a152c853c64212e4b31c6f5f14382510450c7651de5adb75740fae55d7247", func := "wicketman/wicketmanlaw15.ClockTicks", spec := "clockTicks", apart := false }
def ClockTicksSaid : Prop := clockTicksRow.holds Try.pinned (OpenSpec.ofChange clockTicksSpec)

/-- ITS FALSE NEIGHBOUR: 'it returns false'. Refute it at one input. -/
def clockTicksWrong : ChangeSpec := { name := "clockTicks", fn := fun _ => fun
  | [d1, d2] => { results := [.lit (.bool false)], args := [d1, d2] }
  | _ => none }
def ClockTicksWrongFalsely : Prop := clockTicksRow.holds Try.pinned (OpenSpec.ofChange clockTicksWrong)

/-- 'wicketmanlaw15.ClockLeft': WHATEVER THE INPUT: true; the input reads as it did. -/
def clockLeftSpec : ChangeSpec := { name := "clockLeft", fn := fun _ => fun
  | [d1, d2, d3, d4] => { results := [.lit (.bool true)], args := [d1, d2, d3, d4] }
  | _ => none }
def clockLeftRow : OpenClaim := { program := "ytclmjhpbhmbdaaa", sum := "263a152c853c64212e4b31c6f5f14382510450c7651de5adb75740fae55d7247", func := "wicketman/wicketmanlaw15.ClockLeft", spec := "clockLeft", apart := false }
def ClockLeftSaid : Prop := clockLeftRow.holds Try.pinned (OpenSpec.ofChange clockLeftSpec)

/-- ITS FALSE NEIGHBOUR: 'it returns false'. Refute it at one input. -/
def clockLeftWrong : ChangeSpec := { name := "clockLeft", fn := fun _ => fun
  | [d1, d2, d3, d4] => { results := [.lit (.bool false)], args := [d1, d2, d3, d4] }
  | _ => none }
def ClockLeftWrongFalsely : Prop := clockLeftRow.holds Try.pinned (OpenSpec.ofChange clockLeftWrong)

/-- 'wicketmanlaw15.ClockShut': WHATEVER THE INPUT: true; the input reads as it did. -/
def clockShutSpec : ChangeSpec := { name := "clockShut", fn := fun _ => fun
  | [d1, d2, d3, d4] => { results := [.lit (.bool true)], args := [d1, d2, d3, d4] }
  | _ => none }
def clockShutRow : OpenClaim := { program := "ytclmjhpbhmbdaaa", sum := "263a152c853c64212e4b31c6f5f14382510450c7651de5adb75740fae55d7247", func := "wicketman/wicketmanlaw15.ClockShut", spec := "clockShut", apart := false }
def ClockShutSaid : Prop := clockShutRow.holds Try.pinned (OpenSpec.ofChange clockShutSpec)

/-- ITS FALSE NEIGHBOUR: 'it returns false'. Refute it at one input. -/
def clockShutWrong : ChangeSpec := { name := "clockShut", fn := fun _ => fun
  | [d1, d2, d3, d4] => { results := [.lit (.bool false)], args := [d1, d2, d3, d4] }
  | _ => none }
def ClockShutWrongFalsely : Prop := clockShutRow.holds Try.pinned (OpenSpec.ofChange clockShutWrong)

/-- 'wicketmanlaw01.NumTop': WHATEVER THE INPUT: true; the input reads as it did. -/
def numTopSpec : ChangeSpec := { name := "numTop", fn := fun _ => fun
  | [d1, d2] => { results := [.lit (.bool true)], args := [d1, d2] }
  | _ => none }
def numTopRow : OpenClaim := { program := "ytclmjhpbhmbdaaa", sum := "263a152c853c64212e4b31c6f5f14382510450c7651de5adb75740fae55d7247", func := "wicketman/wicketmanlaw01.NumTop", spec := "numTop", apart := false }
def NumTopSaid : Prop := numTopRow.holds Try.pinned (OpenSpec.ofChange numTopSpec)

/-- ITS FALSE NEIGHBOUR: 'it returns false'. Refute it at one input. -/
def numTopWrong : ChangeSpec := { name := "numTop", fn := fun _ => fun
  | [d1, d2] => { results := [.lit (.bool false)], args := [d1, d2] }
  | _ => none }
def NumTopWrongFalsely : Prop := numTopRow.holds Try.pinned (OpenSpec.ofChange numTopWrong)

/-- 'wicketmanlaw01.NumZeros': WHATEVER THE INPUT: true; the input reads as it did. -/
def numZerosSpec : ChangeSpec := { name := "numZeros", fn := fun _ => fun
  | [d1, d2, d3, d4] => { results := [.lit (.bool true)], args := [d1, d2, d3, d4] }
  | _ => none }
def numZerosRow : OpenClaim := { program := "ytclmjhpbhmbdaaa", sum := "263a152c853c64212e4b31c6f5f14382510450c7651de5adb75740fae55d7247", func := "wicketman/wicketmanlaw01.NumZeros", spec := "numZeros", apart := false }
def NumZerosSaid : Prop := numZerosRow.holds Try.pinned (OpenSpec.ofChange numZerosSpec)

/-- ITS FALSE NEIGHBOUR: 'it returns false'. Refute it at one input. -/
def numZerosWrong : ChangeSpec := { name := "numZeros", fn := fun _ => fun
  | [d1, d2, d3, d4] => { results := [.lit (.bool false)], args := [d1, d2, d3, d4] }
  | _ => none }
def NumZerosWrongFalsely : Prop := numZerosRow.holds Try.pinned (OpenSpec.ofChange numZerosWrong)

/-- 'wicketmanlaw01.NumAdds': WHATEVER THE INPUT: true; the input reads as it did. -/
def numAddsSpec : ChangeSpec := { name := "numAdds", fn := fun _ => fun
  | [d1, d2, d3, d4, d5, d6] => { results := [.lit (.bool true)], args := [d1, d2, d3, d4, d5, d6] }
  | _ => none }
def numAddsRow : OpenClaim := { program := "ytclmjhpbhmbdaaa", sum := "263a152c853c64212e4b31c6f5f14382510450c7651de5adb75740fae55d7247", func := "wicketman/wicketmanlaw01.NumAdds", spec := "numAdds", apart := false }
def NumAddsSaid : Prop := numAddsRow.holds Try.pinned (OpenSpec.ofChange numAddsSpec)

/-- ITS FALSE NEIGHBOUR: 'it returns false'. Refute it at one input. -/
def numAddsWrong : ChangeSpec := { name := "numAdds", fn := fun _ => fun
  | [d1, d2, d3, d4, d5, d6] => { results := [.lit (.bool false)], args := [d1, d2, d3, d4, d5, d6] }
  | _ => none }
def NumAddsWrongFalsely : Prop := numAddsRow.holds Try.pinned (OpenSpec.ofChange numAddsWrong)

/-- 'wicketmanlaw01.NumPast': WHATEVER THE INPUT: true; the input reads as it did. -/
def numPastSpec : ChangeSpec := { name := "numPast", fn := fun _ => fun
  | [d1, d2, d3, d4] => { results := [.lit (.bool true)], args := [d1, d2, d3, d4] }
  | _ => none }
def numPastRow : OpenClaim := { program := "ytclmjhpbhmbdaaa", sum := "263a152c853c64212e4b31c6f5f14382510450c7651de5adb75740fae55d7247", func := "wicketman/wicketmanlaw01.NumPast", spec := "numPast", apart := false }
def NumPastSaid : Prop := numPastRow.holds Try.pinned (OpenSpec.ofChange numPastSpec)

/-- ITS FALSE NEIGHBOUR: 'it returns false'. Refute it at one input. -/
def numPastWrong : ChangeSpec := { name := "numPast", fn := fun _ => fun
  | [d1, d2, d3, d4] => { results := [.lit (.bool false)], args := [d1, d2, d3, d4] }
  | _ => none }
def NumPastWrongFalsely : Prop := numPastRow.holds Try.pinned (OpenSpec.ofChange numPastWrong)

/-- 'wicketmanlaw15.ClockRight': WHATEVER THE INPUT: true; the input reads as it did. -/
def clockRightSpec : ChangeSpec := { name := "clockRight", fn := fun _ => fun
  | [d1, d2] => { results := [.lit (.bool true)], args := [d1, d2] }
  | _ => none }
def clockRightRow : OpenClaim := { program := "ytclmjhpbhmbdaaa", sum := "263a152c853c64212e4b31c6f5f14382510450c7651de5adb75740fae55d7247", func := "wicketman/wicketmanlaw15.ClockRight", spec := "clockRight", apart := false }
def ClockRightSaid : Prop := clockRightRow.holds Try.pinned (OpenSpec.ofChange clockRightSpec)

/-- ITS FALSE NEIGHBOUR: 'it returns false'. Refute it at one input. -/
def clockRightWrong : ChangeSpec := { name := "clockRight", fn := fun _ => fun
  | [d1, d2] => { results := [.lit (.bool false)], args := [d1, d2] }
  | _ => none }
def ClockRightWrongFalsely : Prop := clockRightRow.holds Try.pinned (OpenSpec.ofChange clockRightWrong)

/-- 'wicketmanlaw01.NumBack': WHATEVER THE INPUT: true; the input reads as it did. -/
def numBackSpec : ChangeSpec := { name := "numBack", fn := fun _ => fun
  | [d1, d2] => { results := [.lit (.bool true)], args := [d1, d2] }
  | _ => none }
def numBackRow : OpenClaim := { program := "ytclmjhpbhmbdaaa", sum := "263a152c853c64212e4b31c6f5f14382510450c7651de5adb75740fae55d7247", func := "wicketman/wicketmanlaw01.NumBack", spec := "numBack", apart := false }
def NumBackSaid : Prop := numBackRow.holds Try.pinned (OpenSpec.ofChange numBackSpec)

/-- ITS FALSE NEIGHBOUR: 'it returns false'. Refute it at one input. -/
def numBackWrong : ChangeSpec := { name := "numBack", fn := fun _ => fun
  | [d1, d2] => { results := [.lit (.bool false)], args := [d1, d2] }
  | _ => none }
def NumBackWrongFalsely : Prop := numBackRow.holds Try.pinned (OpenSpec.ofChange numBackWrong)

/-- 'wicketmanlaw01.NumFronts': WHATEVER THE INPUT: true; the input reads as it did. -/
def numFrontsSpec : ChangeSpec := { name := "numFronts", fn := fun _ => fun
  | [d1, d2] => { results := [.lit (.bool true)], args := [d1, d2] }
  | _ => none }
def numFrontsRow : OpenClaim := { program := "ytclmjhpbhmbdaaa", sum := "263a152c853c64212e4b31c6f5f14382510450c7651de5adb75740fae55d7247", func := "wicketman/wicketmanlaw01.NumFronts", spec := "numFronts", apart := false }
def NumFrontsSaid : Prop := numFrontsRow.holds Try.pinned (OpenSpec.ofChange numFrontsSpec)

/-- ITS FALSE NEIGHBOUR: 'it returns false'. Refute it at one input. -/
def numFrontsWrong : ChangeSpec := { name := "numFronts", fn := fun _ => fun
  | [d1, d2] => { results := [.lit (.bool false)], args := [d1, d2] }
  | _ => none }
def NumFrontsWrongFalsely : Prop := numFrontsRow.holds Try.pinned (OpenSpec.ofChange numFrontsWrong)

/-- 'wicketmanlaw15.ClockAsks': WHATEVER THE INPUT: true; the input reads as it did. -/
def clockAsksSpec : ChangeSpec := { name := "clockAsks", fn := fun _ => fun
  | [d1, d2, d3, d4, d5, d6, d7, d8] => { results := [.lit (.bool true)], args := [d1, d2, d3, d4, d5, d6, d7, d8] }
  | _ => none }
def clockAsksRow : OpenClaim := { program := "ytclmjhpbhmbdaaa", sum := "263a152c853c64212e4b31c6f5f14382510450c7651de5adb75740fae55d7247", func := "wicketman/wicketmanlaw15.ClockAsks", spec := "clockAsks", apart := false }
def ClockAsksSaid : Prop := clockAsksRow.holds Try.pinned (OpenSpec.ofChange clockAsksSpec)

/-- ITS FALSE NEIGHBOUR: 'it returns false'. Refute it at one input. -/
def clockAsksWrong : ChangeSpec := { name := "clockAsks", fn := fun _ => fun
  | [d1, d2, d3, d4, d5, d6, d7, d8] => { results := [.lit (.bool false)], args := [d1, d2, d3, d4, d5, d6, d7, d8] }
  | _ => none }
def ClockAsksWrongFalsely : Prop := clockAsksRow.holds Try.pinned (OpenSpec.ofChange clockAsksWrong)

/- THE SECOND FORM. 'bulk': how many values and letters a reading holds, each counted each time it is reached (what is shared counts as often as it is met; a slice's spare places count too). A statement '..UptoSaid' is the law's where the arguments, and the package variables that the reading takes, are together of bulk at most 1048576: NARROWER than '..Said'. Prove '..Said' where nothing that the law and all that it calls make is longer than what came in: it says more and counts as full. Else prove '..UptoSaid'. A law counts once. -/
mutual
def uptoBulk {H : Type} : DataW H → Nat
  | .lit (.string bytes) => bytes.length + 1
  | .lit _ => 1
  | .nil => 1
  | .ptr d => uptoBulk d + 1
  | .slice elems spare => uptoBulkAll elems + uptoBulkAll spare + 1
  | .agg parts => uptoBulkAll parts + 1
  | .iface _ d => uptoBulk d + 1
  | .map entries => uptoBulkEntries entries + 1
  | .held _ => 1
def uptoBulkAll {H : Type} : List (DataW H) → Nat
  | [] => 0
  | d :: r => uptoBulk d + uptoBulkAll r
def uptoBulkEntries {H : Type} : List (Lit × DataW H) → Nat
  | [] => 0
  | x :: r => uptoBulkEntry x + uptoBulkEntries r
def uptoBulkEntry {H : Type} : Lit × DataW H → Nat
  | (.string bytes, d) => bytes.length + uptoBulk d + 1
  | (_, d) => uptoBulk d + 1
 end
def uptoSmall : (H : Type) → List (DataW H) → Bool := fun _ ds => decide (uptoBulkAll ds ≤ 1048576)
def OpenSpec.upto (s : _root_.Go.ChangeSpec) : _root_.Go.OpenSpec := { _root_.Go.OpenSpec.ofChange s with cond := some uptoSmall }

/-- 'wicketmanlaw15.ClockEnds', WHERE WHAT IT READS IS OF BULK AT MOST 1048576: true; the input reads as it did. -/
def clockEndsUptoRow : OpenClaim := { program := "ytclmjhpbhmbdaaa", sum := "263a152c853c64212e4b31c6f5f14382510450c7651de5adb75740fae55d7247", func := "wicketman/wicketmanlaw15.ClockEnds", spec := "clockEnds", apart := false, narrowed := true }
def ClockEndsUptoSaid : Prop := clockEndsUptoRow.holds Try.pinned (OpenSpec.upto clockEndsSpec)

/-- 'wicketmanlaw15.ClockWhy', WHERE WHAT IT READS IS OF BULK AT MOST 1048576: true; the input reads as it did. -/
def clockWhyUptoRow : OpenClaim := { program := "ytclmjhpbhmbdaaa", sum := "263a152c853c64212e4b31c6f5f14382510450c7651de5adb75740fae55d7247", func := "wicketman/wicketmanlaw15.ClockWhy", spec := "clockWhy", apart := false, narrowed := true }
def ClockWhyUptoSaid : Prop := clockWhyUptoRow.holds Try.pinned (OpenSpec.upto clockWhySpec)

/-- 'wicketmanlaw15.ClockTicks', WHERE WHAT IT READS IS OF BULK AT MOST 1048576: true; the input reads as it did. -/
def clockTicksUptoRow : OpenClaim := { program := "ytclmjhpbhmbdaaa", sum := "263a152c853c64212e4b31c6f5f14382510450c7651de5adb75740fae55d7247", func := "wicketman/wicketmanlaw15.ClockTicks", spec := "clockTicks", apart := false, narrowed := true }
def ClockTicksUptoSaid : Prop := clockTicksUptoRow.holds Try.pinned (OpenSpec.upto clockTicksSpec)

/-- 'wicketmanlaw15.ClockLeft', WHERE WHAT IT READS IS OF BULK AT MOST 1048576: true; the input reads as it did. -/
def clockLeftUptoRow : OpenClaim := { program := "ytclmjhpbhmbdaaa", sum := "263a152c853c64212e4b31c6f5f14382510450c7651de5adb75740fae55d7247", func := "wicketman/wicketmanlaw15.ClockLeft", spec := "clockLeft", apart := false, narrowed := true }
def ClockLeftUptoSaid : Prop := clockLeftUptoRow.holds Try.pinned (OpenSpec.upto clockLeftSpec)

/-- 'wicketmanlaw15.ClockShut', WHERE WHAT IT READS IS OF BULK AT MOST 1048576: true; the input reads as it did. -/
def clockShutUptoRow : OpenClaim := { program := "ytclmjhpbhmbdaaa", sum := "263a152c853c64212e4b31c6f5f14382510450c7651de5adb75740fae55d7247", func := "wicketman/wicketmanlaw15.ClockShut", spec := "clockShut", apart := false, narrowed := true }
def ClockShutUptoSaid : Prop := clockShutUptoRow.holds Try.pinned (OpenSpec.upto clockShutSpec)

/-- 'wicketmanlaw01.NumTop', WHERE WHAT IT READS IS OF BULK AT MOST 1048576: true; the input reads as it did. -/
def numTopUptoRow : OpenClaim := { program := "ytclmjhpbhmbdaaa", sum := "263a152c853c64212e4b31c6f5f14382510450c7651de5adb75740fae55d7247", func := "wicketman/wicketmanlaw01.NumTop", spec := "numTop", apart := false, narrowed := true }
def NumTopUptoSaid : Prop := numTopUptoRow.holds Try.pinned (OpenSpec.upto numTopSpec)

/-- 'wicketmanlaw01.NumZeros', WHERE WHAT IT READS IS OF BULK AT MOST 1048576: true; the input reads as it did. -/
def numZerosUptoRow : OpenClaim := { program := "ytclmjhpbhmbdaaa", sum := "263a152c853c64212e4b31c6f5f14382510450c7651de5adb75740fae55d7247", func := "wicketman/wicketmanlaw01.NumZeros", spec := "numZeros", apart := false, narrowed := true }
def NumZerosUptoSaid : Prop := numZerosUptoRow.holds Try.pinned (OpenSpec.upto numZerosSpec)

/-- 'wicketmanlaw01.NumAdds', WHERE WHAT IT READS IS OF BULK AT MOST 1048576: true; the input reads as it did. -/
def numAddsUptoRow : OpenClaim := { program := "ytclmjhpbhmbdaaa", sum := "263a152c853c64212e4b31c6f5f14382510450c7651de5adb75740fae55d7247", func := "wicketman/wicketmanlaw01.NumAdds", spec := "numAdds", apart := false, narrowed := true }
def NumAddsUptoSaid : Prop := numAddsUptoRow.holds Try.pinned (OpenSpec.upto numAddsSpec)

/-- 'wicketmanlaw01.NumPast', WHERE WHAT IT READS IS OF BULK AT MOST 1048576: true; the input reads as it did. -/
def numPastUptoRow : OpenClaim := { program := "ytclmjhpbhmbdaaa", sum := "263a152c853c64212e4b31c6f5f14382510450c7651de5adb75740fae55d7247", func := "wicketman/wicketmanlaw01.NumPast", spec := "numPast", apart := false, narrowed := true }
def NumPastUptoSaid : Prop := numPastUptoRow.holds Try.pinned (OpenSpec.upto numPastSpec)

/-- 'wicketmanlaw15.ClockRight', WHERE WHAT IT READS IS OF BULK AT MOST 1048576: true; the input reads as it did. -/
def clockRightUptoRow : OpenClaim := { program := "ytclmjhpbhmbdaaa", sum := "263a152c853c64212e4b31c6f5f14382510450c7651de5adb75740fae55d7247", func := "wicketman/wicketmanlaw15.ClockRight", spec := "clockRight", apart := false, narrowed := true }
def ClockRightUptoSaid : Prop := clockRightUptoRow.holds Try.pinned (OpenSpec.upto clockRightSpec)

/-- 'wicketmanlaw01.NumBack', WHERE WHAT IT READS IS OF BULK AT MOST 1048576: true; the input reads as it did. -/
def numBackUptoRow : OpenClaim := { program := "ytclmjhpbhmbdaaa", sum := "263a152c853c64212e4b31c6f5f14382510450c7651de5adb75740fae55d7247", func := "wicketman/wicketmanlaw01.NumBack", spec := "numBack", apart := false, narrowed := true }
def NumBackUptoSaid : Prop := numBackUptoRow.holds Try.pinned (OpenSpec.upto numBackSpec)

/-- 'wicketmanlaw01.NumFronts', WHERE WHAT IT READS IS OF BULK AT MOST 1048576: true; the input reads as it did. -/
def numFrontsUptoRow : OpenClaim := { program := "ytclmjhpbhmbdaaa", sum := "263a152c853c64212e4b31c6f5f14382510450c7651de5adb75740fae55d7247", func := "wicketman/wicketmanlaw01.NumFronts", spec := "numFronts", apart := false, narrowed := true }
def NumFrontsUptoSaid : Prop := numFrontsUptoRow.holds Try.pinned (OpenSpec.upto numFrontsSpec)

/-- 'wicketmanlaw15.ClockAsks', WHERE WHAT IT READS IS OF BULK AT MOST 1048576: true; the input reads as it did. -/
def clockAsksUptoRow : OpenClaim := { program := "ytclmjhpbhmbdaaa", sum := "263a152c853c64212e4b31c6f5f14382510450c7651de5adb75740fae55d7247", func := "wicketman/wicketmanlaw15.ClockAsks", spec := "clockAsks", apart := false, narrowed := true }
def ClockAsksUptoSaid : Prop := clockAsksUptoRow.holds Try.pinned (OpenSpec.upto clockAsksSpec)

end Rows
end Go.Proofs.Ytclmjhpbhmbdaaa
