/-
  DERIVED. GIVEN WITH THE SEED: THE CARDS: each row of YtjbghpkdehikfaaDoorRows.lean that lists a variable, with what it lists TIED to the program's text (the seventh form; the later family's looks); each row that meets fmt, with fmt's text TOLD by the authors' own Lean function (tested against real Go, not proved from fmt's source: count such statements apart). THE CARD IS WHAT COUNTS. Prove the row's statement (the work); the ties are given (YtjbghpkdehikfaaDoorTie.lean); close each card by the builder's one call (the guide's Derived/Test/ToyasCard.lean, 'card_holds'). Laid BY PROGRAM, IN A SANDBOX (cutbox-door.mjs). By AI agents, Wed Nov 11 2026. No macro, syntax, notation, axiom, sorry.
-/
import Derived.Test.YtjbghpkdehikfaaDoorRows
import GoSem.ClaimSeven
namespace Go.Proofs.YtjbghpkdehikfaaDoor
namespace Rows

/-- THE TIED CARD OF 'wicketmanlaw07.FillParses'. -/
def fillParsesCard : Claim7 := { stood := { row := fillParsesRow, standIns := [], harness := (true, "df4d98b2642954f4fb9806b47b45f5a90ee5ac7ec5d344f2bb37f23a2511a3d9"), looks := false }, kinds := [], alts := [], laidByText := true, laidKinds := [.data, .pinned], laidTests := true, laidLooks := .later }
def FillParsesCardSaid : Prop := Claim7.holds Tryd.pinned (.plain (OpenSpec.ofChange fillParsesSpec)) fillParsesCard

/-- THE TIED CARD OF 'wicketmanlaw07.FillOnce'. -/
def fillOnceCard : Claim7 := { stood := { row := fillOnceRow, standIns := [], harness := (true, "df4d98b2642954f4fb9806b47b45f5a90ee5ac7ec5d344f2bb37f23a2511a3d9"), looks := false }, kinds := [], alts := [], laidByText := true, laidKinds := [.data, .pinned], laidTests := true, laidLooks := .later }
def FillOnceCardSaid : Prop := Claim7.holds Tryd.pinned (.plain (OpenSpec.ofChange fillOnceSpec)) fillOnceCard

/-- THE TIED CARD OF 'wicketmanlaw07.FillMany'. -/
def fillManyCard : Claim7 := { stood := { row := fillManyRow, standIns := [], harness := (true, "df4d98b2642954f4fb9806b47b45f5a90ee5ac7ec5d344f2bb37f23a2511a3d9"), looks := false }, kinds := [], alts := [], laidByText := true, laidKinds := [.data, .pinned], laidTests := true, laidLooks := .later }
def FillManyCardSaid : Prop := Claim7.holds Tryd.pinned (.plain (OpenSpec.ofChange fillManySpec)) fillManyCard

/-- THE TIED CARD OF 'wicketmanlaw07.FillCases'. -/
def fillCasesCard : Claim7 := { stood := { row := fillCasesRow, standIns := [], harness := (true, "df4d98b2642954f4fb9806b47b45f5a90ee5ac7ec5d344f2bb37f23a2511a3d9"), looks := false }, kinds := [], alts := [], laidByText := true, laidKinds := [.data, .pinned], laidTests := true, laidLooks := .later }
def FillCasesCardSaid : Prop := Claim7.holds Tryd.pinned (.plain (OpenSpec.ofChange fillCasesSpec)) fillCasesCard

/-- THE TIED CARD OF 'wicketmanlaw07.FillPrints'. -/
def fillPrintsCard : Claim7 := { stood := { row := fillPrintsRow, standIns := [], harness := (true, "df4d98b2642954f4fb9806b47b45f5a90ee5ac7ec5d344f2bb37f23a2511a3d9"), looks := false }, kinds := [], alts := [], laidByText := true, laidKinds := [.data, .pinned], laidTests := true, laidLooks := .later }
def FillPrintsCardSaid : Prop := Claim7.holds Tryd.pinned (.plain (OpenSpec.ofChange fillPrintsSpec)) fillPrintsCard

/-- THE TIED CARD OF 'wicketmanlaw07.FillBack'. -/
def fillBackCard : Claim7 := { stood := { row := fillBackRow, standIns := [], harness := (true, "df4d98b2642954f4fb9806b47b45f5a90ee5ac7ec5d344f2bb37f23a2511a3d9"), looks := false }, kinds := [], alts := [], laidByText := true, laidKinds := [.data, .pinned], laidTests := true, laidLooks := .later }
def FillBackCardSaid : Prop := Claim7.holds Tryd.pinned (.plain (OpenSpec.ofChange fillBackSpec)) fillBackCard

/-- THE TIED CARD OF 'wicketmanlaw07.FillJoin'. -/
def fillJoinCard : Claim7 := { stood := { row := fillJoinRow, standIns := [], harness := (true, "df4d98b2642954f4fb9806b47b45f5a90ee5ac7ec5d344f2bb37f23a2511a3d9"), looks := false }, kinds := [], alts := [], laidByText := true, laidKinds := [.data, .pinned], laidTests := true, laidLooks := .later }
def FillJoinCardSaid : Prop := Claim7.holds Tryd.pinned (.plain (OpenSpec.ofChange fillJoinSpec)) fillJoinCard

/-- THE SECOND FORM's CARD OF 'wicketmanlaw07.FillParses'. -/
def fillParsesUptoCard : Claim7 := { stood := { row := fillParsesUptoRow, standIns := [], harness := (true, "df4d98b2642954f4fb9806b47b45f5a90ee5ac7ec5d344f2bb37f23a2511a3d9"), looks := false }, kinds := [], alts := [], laidByText := true, laidKinds := [.data, .pinned], laidTests := true, laidLooks := .later }
def FillParsesUptoCardSaid : Prop := Claim7.holds Tryd.pinned (.plain (OpenSpec.upto fillParsesSpec)) fillParsesUptoCard

/-- THE SECOND FORM's CARD OF 'wicketmanlaw07.FillOnce'. -/
def fillOnceUptoCard : Claim7 := { stood := { row := fillOnceUptoRow, standIns := [], harness := (true, "df4d98b2642954f4fb9806b47b45f5a90ee5ac7ec5d344f2bb37f23a2511a3d9"), looks := false }, kinds := [], alts := [], laidByText := true, laidKinds := [.data, .pinned], laidTests := true, laidLooks := .later }
def FillOnceUptoCardSaid : Prop := Claim7.holds Tryd.pinned (.plain (OpenSpec.upto fillOnceSpec)) fillOnceUptoCard

/-- THE SECOND FORM's CARD OF 'wicketmanlaw07.FillMany'. -/
def fillManyUptoCard : Claim7 := { stood := { row := fillManyUptoRow, standIns := [], harness := (true, "df4d98b2642954f4fb9806b47b45f5a90ee5ac7ec5d344f2bb37f23a2511a3d9"), looks := false }, kinds := [], alts := [], laidByText := true, laidKinds := [.data, .pinned], laidTests := true, laidLooks := .later }
def FillManyUptoCardSaid : Prop := Claim7.holds Tryd.pinned (.plain (OpenSpec.upto fillManySpec)) fillManyUptoCard

/-- THE SECOND FORM's CARD OF 'wicketmanlaw07.FillCases'. -/
def fillCasesUptoCard : Claim7 := { stood := { row := fillCasesUptoRow, standIns := [], harness := (true, "df4d98b2642954f4fb9806b47b45f5a90ee5ac7ec5d344f2bb37f23a2511a3d9"), looks := false }, kinds := [], alts := [], laidByText := true, laidKinds := [.data, .pinned], laidTests := true, laidLooks := .later }
def FillCasesUptoCardSaid : Prop := Claim7.holds Tryd.pinned (.plain (OpenSpec.upto fillCasesSpec)) fillCasesUptoCard

/-- THE SECOND FORM's CARD OF 'wicketmanlaw07.FillPrints'. -/
def fillPrintsUptoCard : Claim7 := { stood := { row := fillPrintsUptoRow, standIns := [], harness := (true, "df4d98b2642954f4fb9806b47b45f5a90ee5ac7ec5d344f2bb37f23a2511a3d9"), looks := false }, kinds := [], alts := [], laidByText := true, laidKinds := [.data, .pinned], laidTests := true, laidLooks := .later }
def FillPrintsUptoCardSaid : Prop := Claim7.holds Tryd.pinned (.plain (OpenSpec.upto fillPrintsSpec)) fillPrintsUptoCard

/-- THE SECOND FORM's CARD OF 'wicketmanlaw07.FillBack'. -/
def fillBackUptoCard : Claim7 := { stood := { row := fillBackUptoRow, standIns := [], harness := (true, "df4d98b2642954f4fb9806b47b45f5a90ee5ac7ec5d344f2bb37f23a2511a3d9"), looks := false }, kinds := [], alts := [], laidByText := true, laidKinds := [.data, .pinned], laidTests := true, laidLooks := .later }
def FillBackUptoCardSaid : Prop := Claim7.holds Tryd.pinned (.plain (OpenSpec.upto fillBackSpec)) fillBackUptoCard

/-- THE SECOND FORM's CARD OF 'wicketmanlaw07.FillJoin'. -/
def fillJoinUptoCard : Claim7 := { stood := { row := fillJoinUptoRow, standIns := [], harness := (true, "df4d98b2642954f4fb9806b47b45f5a90ee5ac7ec5d344f2bb37f23a2511a3d9"), looks := false }, kinds := [], alts := [], laidByText := true, laidKinds := [.data, .pinned], laidTests := true, laidLooks := .later }
def FillJoinUptoCardSaid : Prop := Claim7.holds Tryd.pinned (.plain (OpenSpec.upto fillJoinSpec)) fillJoinUptoCard
end Rows
end Go.Proofs.YtjbghpkdehikfaaDoor
