/-
  NARROWER THAN 'FOR EVERY INPUT', by the rows' own cells (each row's printed sentence says how): FillParses: laid · FillOnce: laid · FillMany: laid · FillCases: laid · FillPrints: laid · FillBack: laid · FillJoin: laid.
  DERIVED. THE GIVEN ROWS OF THIS SEAT. 7 by the template 'for every input the law returns true; each argument reads behind the call as it read before'; 0 by the template 'total and deterministic' (their statements: YtjbghpkdehikfaaDoorTotals.lean).
  GIVEN WITH THE SEED: the statements are not yours to turn. If you find one false, say at which input.
  Laid BY PROGRAM, IN A SANDBOX (cutbox-rows.mjs): the forced cells as the released guide's own fill.sh prints them over the translation 6cb497fb339b4b46… (all of the seat's roots in one cut). By AI agents, Wed Nov 11 2026. No macro, syntax, notation, axiom, sorry.
-/
import Derived.Test.YtjbghpkdehikfaaDoorChecked
import GoSem.PinnedTables
import GoSem.Claim
import GoSem.ClaimJoined
import GoSem.ClaimMapViews
import Derived.JoinedTies
import Derived.KernelRfl
namespace Go.Proofs.YtjbghpkdehikfaaDoor
/- THE CELL 'sum', in the pinned program and in every row, IS THE sha256 OF THE DUMP (.gsa) THAT YtjbghpkdehikfaaDoorProg.lean LOADS. Nothing in Lean hashes anything: it is a label: what it is worth is what the hold of that sum in a sandbox is worth. -/
noncomputable def Tryd.pinned : Pinned := { name := "ytjbghpkdehikfaadoor", sum := "6cb497fb339b4b463d4e0bb745b980874f37e0063c227ffc83824e0a9462560d", checked := Tryd.checked }
namespace Rows
def none {H : Type} : Left H := { results := [], args := [] }

/- WHAT THE LISTED PACKAGE-LEVEL VARIABLES READ AS WHEN THE CALL BEGINS. Each datum BY PROGRAM (the guide's laid-datum.mjs) off the statement by which the dump's own 'gosem.cut.vars' lays the variable. In a bare row this is a premise. The card (YtjbghpkdehikfaaDoorCards.lean) ties it to the program's text. -/
def laid_unicode_utf8_acceptRanges {H : Type} : DataW H := .agg [.agg [.lit (.int .u8 128), .lit (.int .u8 191)], .agg [.lit (.int .u8 160), .lit (.int .u8 191)], .agg [.lit (.int .u8 128), .lit (.int .u8 159)], .agg [.lit (.int .u8 144), .lit (.int .u8 191)], .agg [.lit (.int .u8 128), .lit (.int .u8 143)], .agg [.lit (.int .u8 0), .lit (.int .u8 0)], .agg [.lit (.int .u8 0), .lit (.int .u8 0)], .agg [.lit (.int .u8 0), .lit (.int .u8 0)], .agg [.lit (.int .u8 0), .lit (.int .u8 0)], .agg [.lit (.int .u8 0), .lit (.int .u8 0)], .agg [.lit (.int .u8 0), .lit (.int .u8 0)], .agg [.lit (.int .u8 0), .lit (.int .u8 0)], .agg [.lit (.int .u8 0), .lit (.int .u8 0)], .agg [.lit (.int .u8 0), .lit (.int .u8 0)], .agg [.lit (.int .u8 0), .lit (.int .u8 0)], .agg [.lit (.int .u8 0), .lit (.int .u8 0)]]
/-- One of Go's own tables, pinned by name: the form's constant. -/
def laid_unicode_utf8_first : DataW Unit := Go.Pinned.utf8First

/-- 'wicketmanlaw07.FillParses': WHATEVER THE INPUT: true; the input reads as it did. -/
def fillParsesSpec : ChangeSpec := { name := "fillParses", fn := fun _ => fun
  | [d1, d2, d3] => { results := [.lit (.bool true)], args := [d1, d2, d3] }
  | _ => none }
def fillParsesRow : OpenClaim := { program := "ytjbghpkdehikfaadoor", sum := "6cb497fb339b4b463d4e0bb745b980874f37e0063c227ffc83824e0a9462560d", func := "wicketman/wicketmanlaw07.FillParses", spec := "fillParses", inPlace := ["internal/bytealg.CountString", "internal/bytealg.IndexByteString", "internal/bytealg.IndexString", "internal/abi.NoEscape"], unfollowed := true, recurses := true, named := ["internal/bytealg.MaxLen", "unicode/utf8.first", "unicode/utf8.acceptRanges"], apart := false, laid := [("unicode/utf8.acceptRanges", laid_unicode_utf8_acceptRanges), ("unicode/utf8.first", laid_unicode_utf8_first)] }
def FillParsesSaid : Prop := fillParsesRow.holds Tryd.pinned (OpenSpec.ofChange fillParsesSpec)

/-- ITS FALSE NEIGHBOUR: 'it returns false'. Refute it at one input. -/
def fillParsesWrong : ChangeSpec := { name := "fillParses", fn := fun _ => fun
  | [d1, d2, d3] => { results := [.lit (.bool false)], args := [d1, d2, d3] }
  | _ => none }
def FillParsesWrongFalsely : Prop := fillParsesRow.holds Tryd.pinned (OpenSpec.ofChange fillParsesWrong)

/-- 'wicketmanlaw07.FillOnce': WHATEVER THE INPUT: true; the input reads as it did. -/
def fillOnceSpec : ChangeSpec := { name := "fillOnce", fn := fun _ => fun
  | [d1, d2, d3, d4] => { results := [.lit (.bool true)], args := [d1, d2, d3, d4] }
  | _ => none }
def fillOnceRow : OpenClaim := { program := "ytjbghpkdehikfaadoor", sum := "6cb497fb339b4b463d4e0bb745b980874f37e0063c227ffc83824e0a9462560d", func := "wicketman/wicketmanlaw07.FillOnce", spec := "fillOnce", inPlace := ["internal/bytealg.CountString", "internal/bytealg.IndexByteString", "internal/bytealg.IndexString", "internal/abi.NoEscape"], unfollowed := true, recurses := true, named := ["internal/bytealg.MaxLen", "unicode/utf8.first", "unicode/utf8.acceptRanges"], apart := false, laid := [("unicode/utf8.acceptRanges", laid_unicode_utf8_acceptRanges), ("unicode/utf8.first", laid_unicode_utf8_first)] }
def FillOnceSaid : Prop := fillOnceRow.holds Tryd.pinned (OpenSpec.ofChange fillOnceSpec)

/-- ITS FALSE NEIGHBOUR: 'it returns false'. Refute it at one input. -/
def fillOnceWrong : ChangeSpec := { name := "fillOnce", fn := fun _ => fun
  | [d1, d2, d3, d4] => { results := [.lit (.bool false)], args := [d1, d2, d3, d4] }
  | _ => none }
def FillOnceWrongFalsely : Prop := fillOnceRow.holds Tryd.pinned (OpenSpec.ofChange fillOnceWrong)

/-- 'wicketmanlaw07.FillMany': WHATEVER THE INPUT: true; the input reads as it did. -/
def fillManySpec : ChangeSpec := { name := "fillMany", fn := fun _ => fun
  | [d1, d2] => { results := [.lit (.bool true)], args := [d1, d2] }
  | _ => none }
def fillManyRow : OpenClaim := { program := "ytjbghpkdehikfaadoor", sum := "6cb497fb339b4b463d4e0bb745b980874f37e0063c227ffc83824e0a9462560d", func := "wicketman/wicketmanlaw07.FillMany", spec := "fillMany", inPlace := ["internal/bytealg.CountString", "internal/bytealg.IndexByteString", "internal/bytealg.IndexString", "internal/abi.NoEscape"], unfollowed := true, recurses := true, named := ["internal/bytealg.MaxLen", "unicode/utf8.first", "unicode/utf8.acceptRanges"], apart := false, laid := [("unicode/utf8.acceptRanges", laid_unicode_utf8_acceptRanges), ("unicode/utf8.first", laid_unicode_utf8_first)] }
def FillManySaid : Prop := fillManyRow.holds Tryd.pinned (OpenSpec.ofChange fillManySpec)

/-- ITS FALSE NEIGHBOUR: 'it returns false'. Refute it at one input. -/
def fillManyWrong : ChangeSpec := { name := "fillMany", fn := fun _ => fun
  | [d1, d2] => { results := [.lit (.bool false)], args := [d1, d2] }
  | _ => none }
def FillManyWrongFalsely : Prop := fillManyRow.holds Tryd.pinned (OpenSpec.ofChange fillManyWrong)

/-- 'wicketmanlaw07.FillCases': WHATEVER THE INPUT: true; the input reads as it did. -/
def fillCasesSpec : ChangeSpec := { name := "fillCases", fn := fun _ => fun
  | [d] => { results := [.lit (.bool true)], args := [d] }
  | _ => none }
def fillCasesRow : OpenClaim := { program := "ytjbghpkdehikfaadoor", sum := "6cb497fb339b4b463d4e0bb745b980874f37e0063c227ffc83824e0a9462560d", func := "wicketman/wicketmanlaw07.FillCases", spec := "fillCases", inPlace := ["internal/abi.NoEscape", "internal/bytealg.IndexByteString", "internal/bytealg.CountString", "internal/bytealg.IndexString"], unfollowed := true, recurses := true, named := ["internal/bytealg.MaxLen", "unicode/utf8.first", "unicode/utf8.acceptRanges"], apart := false, laid := [("unicode/utf8.acceptRanges", laid_unicode_utf8_acceptRanges), ("unicode/utf8.first", laid_unicode_utf8_first)] }
def FillCasesSaid : Prop := fillCasesRow.holds Tryd.pinned (OpenSpec.ofChange fillCasesSpec)

/-- ITS FALSE NEIGHBOUR: 'it returns false'. Refute it at one input. -/
def fillCasesWrong : ChangeSpec := { name := "fillCases", fn := fun _ => fun
  | [d] => { results := [.lit (.bool false)], args := [d] }
  | _ => none }
def FillCasesWrongFalsely : Prop := fillCasesRow.holds Tryd.pinned (OpenSpec.ofChange fillCasesWrong)

/-- 'wicketmanlaw07.FillPrints': WHATEVER THE INPUT: true; the input reads as it did. -/
def fillPrintsSpec : ChangeSpec := { name := "fillPrints", fn := fun _ => fun
  | [d1, d2, d3, d4] => { results := [.lit (.bool true)], args := [d1, d2, d3, d4] }
  | _ => none }
def fillPrintsRow : OpenClaim := { program := "ytjbghpkdehikfaadoor", sum := "6cb497fb339b4b463d4e0bb745b980874f37e0063c227ffc83824e0a9462560d", func := "wicketman/wicketmanlaw07.FillPrints", spec := "fillPrints", inPlace := ["internal/bytealg.CountString", "internal/bytealg.IndexByteString", "internal/bytealg.IndexString", "internal/abi.NoEscape", "internal/bytealg.MakeNoZero"], unfollowed := true, recurses := true, named := ["internal/bytealg.MaxLen", "unicode/utf8.first", "unicode/utf8.acceptRanges"], apart := false, laid := [("unicode/utf8.acceptRanges", laid_unicode_utf8_acceptRanges), ("unicode/utf8.first", laid_unicode_utf8_first)] }
def FillPrintsSaid : Prop := fillPrintsRow.holds Tryd.pinned (OpenSpec.ofChange fillPrintsSpec)

/-- ITS FALSE NEIGHBOUR: 'it returns false'. Refute it at one input. -/
def fillPrintsWrong : ChangeSpec := { name := "fillPrints", fn := fun _ => fun
  | [d1, d2, d3, d4] => { results := [.lit (.bool false)], args := [d1, d2, d3, d4] }
  | _ => none }
def FillPrintsWrongFalsely : Prop := fillPrintsRow.holds Tryd.pinned (OpenSpec.ofChange fillPrintsWrong)

/-- 'wicketmanlaw07.FillBack': WHATEVER THE INPUT: true; the input reads as it did. -/
def fillBackSpec : ChangeSpec := { name := "fillBack", fn := fun _ => fun
  | [d1, d2] => { results := [.lit (.bool true)], args := [d1, d2] }
  | _ => none }
def fillBackRow : OpenClaim := { program := "ytjbghpkdehikfaadoor", sum := "6cb497fb339b4b463d4e0bb745b980874f37e0063c227ffc83824e0a9462560d", func := "wicketman/wicketmanlaw07.FillBack", spec := "fillBack", inPlace := ["internal/bytealg.CountString", "internal/bytealg.IndexByteString", "internal/bytealg.IndexString", "internal/abi.NoEscape", "internal/bytealg.MakeNoZero"], unfollowed := true, recurses := true, named := ["internal/bytealg.MaxLen", "unicode/utf8.first", "unicode/utf8.acceptRanges"], apart := false, laid := [("unicode/utf8.acceptRanges", laid_unicode_utf8_acceptRanges), ("unicode/utf8.first", laid_unicode_utf8_first)] }
def FillBackSaid : Prop := fillBackRow.holds Tryd.pinned (OpenSpec.ofChange fillBackSpec)

/-- ITS FALSE NEIGHBOUR: 'it returns false'. Refute it at one input. -/
def fillBackWrong : ChangeSpec := { name := "fillBack", fn := fun _ => fun
  | [d1, d2] => { results := [.lit (.bool false)], args := [d1, d2] }
  | _ => none }
def FillBackWrongFalsely : Prop := fillBackRow.holds Tryd.pinned (OpenSpec.ofChange fillBackWrong)

/-- 'wicketmanlaw07.FillJoin': WHATEVER THE INPUT: true; the input reads as it did. -/
def fillJoinSpec : ChangeSpec := { name := "fillJoin", fn := fun _ => fun
  | [d1, d2] => { results := [.lit (.bool true)], args := [d1, d2] }
  | _ => none }
def fillJoinRow : OpenClaim := { program := "ytjbghpkdehikfaadoor", sum := "6cb497fb339b4b463d4e0bb745b980874f37e0063c227ffc83824e0a9462560d", func := "wicketman/wicketmanlaw07.FillJoin", spec := "fillJoin", inPlace := ["internal/bytealg.CountString", "internal/bytealg.IndexByteString", "internal/bytealg.IndexString", "internal/abi.NoEscape", "internal/bytealg.MakeNoZero"], unfollowed := true, recurses := true, named := ["internal/bytealg.MaxLen", "unicode/utf8.first", "unicode/utf8.acceptRanges"], apart := false, laid := [("unicode/utf8.acceptRanges", laid_unicode_utf8_acceptRanges), ("unicode/utf8.first", laid_unicode_utf8_first)] }
def FillJoinSaid : Prop := fillJoinRow.holds Tryd.pinned (OpenSpec.ofChange fillJoinSpec)

/-- ITS FALSE NEIGHBOUR: 'it returns false'. Refute it at one input. -/
def fillJoinWrong : ChangeSpec := { name := "fillJoin", fn := fun _ => fun
  | [d1, d2] => { results := [.lit (.bool false)], args := [d1, d2] }
  | _ => none }
def FillJoinWrongFalsely : Prop := fillJoinRow.holds Tryd.pinned (OpenSpec.ofChange fillJoinWrong)

/- THE SECOND FORM. 'bulk': how many values and letters a reading holds, each counted each time it is reached (what is shared counts as often as it is met; a slice's spare places count too). A statement '..UptoSaid' is the law's where the arguments, and the package variables that the reading takes, are together of bulk at most 1048576: NARROWER than '..Said'. Prove '..Said' where nothing that the law and all that it calls make is longer than what came in: it says more and counts as full. Else prove '..UptoSaid'. A law counts once. -/
mutual
def uptoBulk {H : Type} : DataW H → Nat
  | .lit (.string bytes) => bytes.length + 1
  | .lit _ => 1
  | .nil => 1
  | .ptr d => uptoBulk d + 1
  | .slice elems spare => uptoBulkAll elems + uptoBulkAll spare + 1
  | .agg parts => uptoBulkAll parts + 1
  | .iface _ d => uptoBulk d + 1
  | .map entries => uptoBulkEntries entries + 1
  | .held _ => 1
def uptoBulkAll {H : Type} : List (DataW H) → Nat
  | [] => 0
  | d :: r => uptoBulk d + uptoBulkAll r
def uptoBulkEntries {H : Type} : List (Lit × DataW H) → Nat
  | [] => 0
  | x :: r => uptoBulkEntry x + uptoBulkEntries r
def uptoBulkEntry {H : Type} : Lit × DataW H → Nat
  | (.string bytes, d) => bytes.length + uptoBulk d + 1
  | (_, d) => uptoBulk d + 1
 end
def uptoSmall : (H : Type) → List (DataW H) → Bool := fun _ ds => decide (uptoBulkAll ds ≤ 1048576)
def OpenSpec.upto (s : _root_.Go.ChangeSpec) : _root_.Go.OpenSpec := { _root_.Go.OpenSpec.ofChange s with cond := some uptoSmall }

/-- 'wicketmanlaw07.FillParses', WHERE WHAT IT READS IS OF BULK AT MOST 1048576: true; the input reads as it did. -/
def fillParsesUptoRow : OpenClaim := { program := "ytjbghpkdehikfaadoor", sum := "6cb497fb339b4b463d4e0bb745b980874f37e0063c227ffc83824e0a9462560d", func := "wicketman/wicketmanlaw07.FillParses", spec := "fillParses", inPlace := ["internal/bytealg.CountString", "internal/bytealg.IndexByteString", "internal/bytealg.IndexString", "internal/abi.NoEscape"], unfollowed := true, recurses := true, named := ["internal/bytealg.MaxLen", "unicode/utf8.first", "unicode/utf8.acceptRanges"], apart := false, laid := [("unicode/utf8.acceptRanges", laid_unicode_utf8_acceptRanges), ("unicode/utf8.first", laid_unicode_utf8_first)], narrowed := true }
def FillParsesUptoSaid : Prop := fillParsesUptoRow.holds Tryd.pinned (OpenSpec.upto fillParsesSpec)

/-- 'wicketmanlaw07.FillOnce', WHERE WHAT IT READS IS OF BULK AT MOST 1048576: true; the input reads as it did. -/
def fillOnceUptoRow : OpenClaim := { program := "ytjbghpkdehikfaadoor", sum := "6cb497fb339b4b463d4e0bb745b980874f37e0063c227ffc83824e0a9462560d", func := "wicketman/wicketmanlaw07.FillOnce", spec := "fillOnce", inPlace := ["internal/bytealg.CountString", "internal/bytealg.IndexByteString", "internal/bytealg.IndexString", "internal/abi.NoEscape"], unfollowed := true, recurses := true, named := ["internal/bytealg.MaxLen", "unicode/utf8.first", "unicode/utf8.acceptRanges"], apart := false, laid := [("unicode/utf8.acceptRanges", laid_unicode_utf8_acceptRanges), ("unicode/utf8.first", laid_unicode_utf8_first)], narrowed := true }
def FillOnceUptoSaid : Prop := fillOnceUptoRow.holds Tryd.pinned (OpenSpec.upto fillOnceSpec)

/-- 'wicketmanlaw07.FillMany', WHERE WHAT IT READS IS OF BULK AT MOST 1048576: true; the input reads as it did. -/
def fillManyUptoRow : OpenClaim := { program := "ytjbghpkdehikfaadoor", sum := "6cb497fb339b4b463d4e0bb745b980874f37e0063c227ffc83824e0a9462560d", func := "wicketman/wicketmanlaw07.FillMany", spec := "fillMany", inPlace := ["internal/bytealg.CountString", "internal/bytealg.IndexByteString", "internal/bytealg.IndexString", "internal/abi.NoEscape"], unfollowed := true, recurses := true, named := ["internal/bytealg.MaxLen", "unicode/utf8.first", "unicode/utf8.acceptRanges"], apart := false, laid := [("unicode/utf8.acceptRanges", laid_unicode_utf8_acceptRanges), ("unicode/utf8.first", laid_unicode_utf8_first)], narrowed := true }
def FillManyUptoSaid : Prop := fillManyUptoRow.holds Tryd.pinned (OpenSpec.upto fillManySpec)

/-- 'wicketmanlaw07.FillCases', WHERE WHAT IT READS IS OF BULK AT MOST 1048576: true; the input reads as it did. -/
def fillCasesUptoRow : OpenClaim := { program := "ytjbghpkdehikfaadoor", sum := "6cb497fb339b4b463d4e0bb745b980874f37e0063c227ffc83824e0a9462560d", func := "wicketman/wicketmanlaw07.FillCases", spec := "fillCases", inPlace := ["internal/abi.NoEscape", "internal/bytealg.IndexByteString", "internal/bytealg.CountString", "internal/bytealg.IndexString"], unfollowed := true, recurses := true, named := ["internal/bytealg.MaxLen", "unicode/utf8.first", "unicode/utf8.acceptRanges"], apart := false, laid := [("unicode/utf8.acceptRanges", laid_unicode_utf8_acceptRanges), ("unicode/utf8.first", laid_unicode_utf8_first)], narrowed := true }
def FillCasesUptoSaid : Prop := fillCasesUptoRow.holds Tryd.pinned (OpenSpec.upto fillCasesSpec)

/-- 'wicketmanlaw07.FillPrints', WHERE WHAT IT READS IS OF BULK AT MOST 1048576: true; the input reads as it did. -/
def fillPrintsUptoRow : OpenClaim := { program := "ytjbghpkdehikfaadoor", sum := "6cb497fb339b4b463d4e0bb745b980874f37e0063c227ffc83824e0a9462560d", func := "wicketman/wicketmanlaw07.FillPrints", spec := "fillPrints", inPlace := ["internal/bytealg.CountString", "internal/bytealg.IndexByteString", "internal/bytealg.IndexString", "internal/abi.NoEscape", "internal/bytealg.MakeNoZero"], unfollowed := true, recurses := true, named := ["internal/bytealg.MaxLen", "unicode/utf8.first", "unicode/utf8.acceptRanges"], apart := false, laid := [("unicode/utf8.acceptRanges", laid_unicode_utf8_acceptRanges), ("unicode/utf8.first", laid_unicode_utf8_first)], narrowed := true }
def FillPrintsUptoSaid : Prop := fillPrintsUptoRow.holds Tryd.pinned (OpenSpec.upto fillPrintsSpec)

/-- 'wicketmanlaw07.FillBack', WHERE WHAT IT READS IS OF BULK AT MOST 1048576: true; the input reads as it did. -/
def fillBackUptoRow : OpenClaim := { program := "ytjbghpkdehikfaadoor", sum := "6cb497fb339b4b463d4e0bb745b980874f37e0063c227ffc83824e0a9462560d", func := "wicketman/wicketmanlaw07.FillBack", spec := "fillBack", inPlace := ["internal/bytealg.CountString", "internal/bytealg.IndexByteString", "internal/bytealg.IndexString", "internal/abi.NoEscape", "internal/bytealg.MakeNoZero"], unfollowed := true, recurses := true, named := ["internal/bytealg.MaxLen", "unicode/utf8.first", "unicode/utf8.acceptRanges"], apart := false, laid := [("unicode/utf8.acceptRanges", laid_unicode_utf8_acceptRanges), ("unicode/utf8.first", laid_unicode_utf8_first)], narrowed := true }
def FillBackUptoSaid : Prop := fillBackUptoRow.holds Tryd.pinned (OpenSpec.upto fillBackSpec)

/-- 'wicketmanlaw07.FillJoin', WHERE WHAT IT READS IS OF BULK AT MOST 1048576: true; the input reads as it did. -/
def fillJoinUptoRow : OpenClaim := { program := "ytjbghpkdehikfaadoor", sum := "6cb497fb339b4b463d4e0bb745b980874f37e0063c227ffc83824e0a9462560d", func := "wicketman/wicketmanlaw07.FillJoin", spec := "fillJoin", inPlace := ["internal/bytealg.CountString", "internal/bytealg.IndexByteString", "internal/bytealg.IndexString", "internal/abi.NoEscape", "internal/bytealg.MakeNoZero"], unfollowed := true, recurses := true, named := ["internal/bytealg.MaxLen", "unicode/utf8.first", "unicode/utf8.acceptRanges"], apart := false, laid := [("unicode/utf8.acceptRanges", laid_unicode_utf8_acceptRanges), ("unicode/utf8.first", laid_unicode_utf8_first)], narrowed := true }
def FillJoinUptoSaid : Prop := fillJoinUptoRow.holds Tryd.pinned (OpenSpec.upto fillJoinSpec)

end Rows
end Go.Proofs.YtjbghpkdehikfaaDoor
