/-
  No cell of these rows narrows 'for every input' (looked for: loops, veiled, ifaces, maps, wideKeys, modest, calm, conditions, laid).
  DERIVED. THE GIVEN ROWS OF THIS SEAT. 12 by the template 'for every input the law returns true; each argument reads behind the call as it read before'; 0 by the template 'total and deterministic' (their statements: YtdabflkejhoghaaTotals.lean).
  GIVEN WITH THE SEED: the statements are not yours to turn. If you find one false, say at which input.
  Laid BY PROGRAM, IN A SANDBOX (cutbox-rows.mjs): the forced cells as the released guide's own fill.sh prints them over the translation 8ba0f3186f8ad0a9… (all of the seat's roots in one cut). By AI agents, Wed Nov 11 2026. No macro, syntax, notation, axiom, sorry.
-/
import Derived.Test.YtdabflkejhoghaaChecked
import GoSem.Claim
import GoSem.ClaimJoined
import GoSem.ClaimMapViews
import Derived.JoinedTies
import Derived.KernelRfl
namespace Go.Proofs.Ytdabflkejhoghaa
/- THE CELL 'sum', in the pinned program and in every row, IS THE sha256 OF THE DUMP (.gsa) THAT YtdabflkejhoghaaProg.lean LOADS. Nothing in Lean hashes anything: it is a label: what it is worth is what the hold of that sum in a sandbox is worth. -/
noncomputable def Try.pinned : Pinned := { name := "ytdabflkejhoghaa", sum := "8ba0f3186f8ad0a9a310bf8c352ffac2de714304594766d42ffba752eee2d078", checked := Try.checked }
namespace Rows
def none {H : Type} : Left H := { results := [], args := [] }

/-- 'wicketmanlaw14.WalFull': WHATEVER THE INPUT: true; the input reads as it did. -/
def walFullSpec : ChangeSpec := { name := "walFull", fn := fun _ => fun
  | [d1, d2, d3] => { results := [.lit (.bool true)], args := [d1, d2, d3] }
  | _ => none }
def walFullRow : OpenClaim := { program := "ytdabflkejhoghaa", sum := "8ba0f3186f8ad0a9a310bf8c352ffac2de714304594766d42ffba752eee2d078", func := "wicketman/wicketmanlaw14.WalFull", spec := "walFull", unfollowed := true, recurses := true, apart := false }
def WalFullSaid : Prop := walFullRow.holds Try.pinned (OpenSpec.ofChange walFullSpec)

/-- ITS FALSE NEIGHBOUR: 'it returns false'. Refute it at one input. -/
def walFullWrong : ChangeSpec := { name := "walFull", fn := fun _ => fun
  | [d1, d2, d3] => { results := [.lit (.bool false)], args := [d1, d2, d3] }
  | _ => none }
def WalFullWrongFalsely : Prop := walFullRow.holds Try.pinned (OpenSpec.ofChange walFullWrong)

/-- 'wicketmanlaw14.WalPacks': WHATEVER THE INPUT: true; the input reads as it did. -/
def walPacksSpec : ChangeSpec := { name := "walPacks", fn := fun _ => fun
  | [d1, d2, d3, d4] => { results := [.lit (.bool true)], args := [d1, d2, d3, d4] }
  | _ => none }
def walPacksRow : OpenClaim := { program := "ytdabflkejhoghaa", sum := "8ba0f3186f8ad0a9a310bf8c352ffac2de714304594766d42ffba752eee2d078", func := "wicketman/wicketmanlaw14.WalPacks", spec := "walPacks", unfollowed := true, recurses := true, apart := false }
def WalPacksSaid : Prop := walPacksRow.holds Try.pinned (OpenSpec.ofChange walPacksSpec)

/-- ITS FALSE NEIGHBOUR: 'it returns false'. Refute it at one input. -/
def walPacksWrong : ChangeSpec := { name := "walPacks", fn := fun _ => fun
  | [d1, d2, d3, d4] => { results := [.lit (.bool false)], args := [d1, d2, d3, d4] }
  | _ => none }
def WalPacksWrongFalsely : Prop := walPacksRow.holds Try.pinned (OpenSpec.ofChange walPacksWrong)

/-- 'wicketmanlaw14.WalNil': WHATEVER THE INPUT: true; the input reads as it did. -/
def walNilSpec : ChangeSpec := { name := "walNil", fn := fun _ => fun
  | [d] => { results := [.lit (.bool true)], args := [d] }
  | _ => none }
def walNilRow : OpenClaim := { program := "ytdabflkejhoghaa", sum := "8ba0f3186f8ad0a9a310bf8c352ffac2de714304594766d42ffba752eee2d078", func := "wicketman/wicketmanlaw14.WalNil", spec := "walNil", unfollowed := true, recurses := true, apart := false }
def WalNilSaid : Prop := walNilRow.holds Try.pinned (OpenSpec.ofChange walNilSpec)

/-- ITS FALSE NEIGHBOUR: 'it returns false'. Refute it at one input. -/
def walNilWrong : ChangeSpec := { name := "walNil", fn := fun _ => fun
  | [d] => { results := [.lit (.bool false)], args := [d] }
  | _ => none }
def WalNilWrongFalsely : Prop := walNilRow.holds Try.pinned (OpenSpec.ofChange walNilWrong)

/-- 'wicketmanlaw12.DiskNames': WHATEVER THE INPUT: true; the input reads as it did. -/
def diskNamesSpec : ChangeSpec := { name := "diskNames", fn := fun _ => fun
  | [d1, d2] => { results := [.lit (.bool true)], args := [d1, d2] }
  | _ => none }
def diskNamesRow : OpenClaim := { program := "ytdabflkejhoghaa", sum := "8ba0f3186f8ad0a9a310bf8c352ffac2de714304594766d42ffba752eee2d078", func := "wicketman/wicketmanlaw12.DiskNames", spec := "diskNames", unfollowed := true, recurses := true, apart := false }
def DiskNamesSaid : Prop := diskNamesRow.holds Try.pinned (OpenSpec.ofChange diskNamesSpec)

/-- ITS FALSE NEIGHBOUR: 'it returns false'. Refute it at one input. -/
def diskNamesWrong : ChangeSpec := { name := "diskNames", fn := fun _ => fun
  | [d1, d2] => { results := [.lit (.bool false)], args := [d1, d2] }
  | _ => none }
def DiskNamesWrongFalsely : Prop := diskNamesRow.holds Try.pinned (OpenSpec.ofChange diskNamesWrong)

/-- 'wicketmanlaw12.DiskLasts': WHATEVER THE INPUT: true; the input reads as it did. -/
def diskLastsSpec : ChangeSpec := { name := "diskLasts", fn := fun _ => fun
  | [d1, d2, d3, d4] => { results := [.lit (.bool true)], args := [d1, d2, d3, d4] }
  | _ => none }
def diskLastsRow : OpenClaim := { program := "ytdabflkejhoghaa", sum := "8ba0f3186f8ad0a9a310bf8c352ffac2de714304594766d42ffba752eee2d078", func := "wicketman/wicketmanlaw12.DiskLasts", spec := "diskLasts", unfollowed := true, recurses := true, apart := false }
def DiskLastsSaid : Prop := diskLastsRow.holds Try.pinned (OpenSpec.ofChange diskLastsSpec)

/-- ITS FALSE NEIGHBOUR: 'it returns false'. Refute it at one input. -/
def diskLastsWrong : ChangeSpec := { name := "diskLasts", fn := fun _ => fun
  | [d1, d2, d3, d4] => { results := [.lit (.bool false)], args := [d1, d2, d3, d4] }
  | _ => none }
def DiskLastsWrongFalsely : Prop := diskLastsRow.holds Try.pinned (OpenSpec.ofChange diskLastsWrong)

/-- 'wicketmanlaw12.DiskFuse': WHATEVER THE INPUT: true; the input reads as it did. -/
def diskFuseSpec : ChangeSpec := { name := "diskFuse", fn := fun _ => fun
  | [d1, d2, d3] => { results := [.lit (.bool true)], args := [d1, d2, d3] }
  | _ => none }
def diskFuseRow : OpenClaim := { program := "ytdabflkejhoghaa", sum := "8ba0f3186f8ad0a9a310bf8c352ffac2de714304594766d42ffba752eee2d078", func := "wicketman/wicketmanlaw12.DiskFuse", spec := "diskFuse", unfollowed := true, recurses := true, apart := false }
def DiskFuseSaid : Prop := diskFuseRow.holds Try.pinned (OpenSpec.ofChange diskFuseSpec)

/-- ITS FALSE NEIGHBOUR: 'it returns false'. Refute it at one input. -/
def diskFuseWrong : ChangeSpec := { name := "diskFuse", fn := fun _ => fun
  | [d1, d2, d3] => { results := [.lit (.bool false)], args := [d1, d2, d3] }
  | _ => none }
def DiskFuseWrongFalsely : Prop := diskFuseRow.holds Try.pinned (OpenSpec.ofChange diskFuseWrong)

/-- 'wicketmanlaw12.DiskMoves': WHATEVER THE INPUT: true; the input reads as it did. -/
def diskMovesSpec : ChangeSpec := { name := "diskMoves", fn := fun _ => fun
  | [d1, d2, d3, d4, d5] => { results := [.lit (.bool true)], args := [d1, d2, d3, d4, d5] }
  | _ => none }
def diskMovesRow : OpenClaim := { program := "ytdabflkejhoghaa", sum := "8ba0f3186f8ad0a9a310bf8c352ffac2de714304594766d42ffba752eee2d078", func := "wicketman/wicketmanlaw12.DiskMoves", spec := "diskMoves", unfollowed := true, recurses := true, apart := false }
def DiskMovesSaid : Prop := diskMovesRow.holds Try.pinned (OpenSpec.ofChange diskMovesSpec)

/-- ITS FALSE NEIGHBOUR: 'it returns false'. Refute it at one input. -/
def diskMovesWrong : ChangeSpec := { name := "diskMoves", fn := fun _ => fun
  | [d1, d2, d3, d4, d5] => { results := [.lit (.bool false)], args := [d1, d2, d3, d4, d5] }
  | _ => none }
def DiskMovesWrongFalsely : Prop := diskMovesRow.holds Try.pinned (OpenSpec.ofChange diskMovesWrong)

/-- 'wicketmanlaw12.DiskRoom': WHATEVER THE INPUT: true; the input reads as it did. -/
def diskRoomSpec : ChangeSpec := { name := "diskRoom", fn := fun _ => fun
  | [d1, d2, d3] => { results := [.lit (.bool true)], args := [d1, d2, d3] }
  | _ => none }
def diskRoomRow : OpenClaim := { program := "ytdabflkejhoghaa", sum := "8ba0f3186f8ad0a9a310bf8c352ffac2de714304594766d42ffba752eee2d078", func := "wicketman/wicketmanlaw12.DiskRoom", spec := "diskRoom", unfollowed := true, recurses := true, apart := false }
def DiskRoomSaid : Prop := diskRoomRow.holds Try.pinned (OpenSpec.ofChange diskRoomSpec)

/-- ITS FALSE NEIGHBOUR: 'it returns false'. Refute it at one input. -/
def diskRoomWrong : ChangeSpec := { name := "diskRoom", fn := fun _ => fun
  | [d1, d2, d3] => { results := [.lit (.bool false)], args := [d1, d2, d3] }
  | _ => none }
def DiskRoomWrongFalsely : Prop := diskRoomRow.holds Try.pinned (OpenSpec.ofChange diskRoomWrong)

/-- 'wicketmanlaw12.DiskCopy': WHATEVER THE INPUT: true; the input reads as it did. -/
def diskCopySpec : ChangeSpec := { name := "diskCopy", fn := fun _ => fun
  | [d1, d2] => { results := [.lit (.bool true)], args := [d1, d2] }
  | _ => none }
def diskCopyRow : OpenClaim := { program := "ytdabflkejhoghaa", sum := "8ba0f3186f8ad0a9a310bf8c352ffac2de714304594766d42ffba752eee2d078", func := "wicketman/wicketmanlaw12.DiskCopy", spec := "diskCopy", inPlace := ["maps.clone"], unfollowed := true, recurses := true, apart := false }
def DiskCopySaid : Prop := diskCopyRow.holds Try.pinned (OpenSpec.ofChange diskCopySpec)

/-- ITS FALSE NEIGHBOUR: 'it returns false'. Refute it at one input. -/
def diskCopyWrong : ChangeSpec := { name := "diskCopy", fn := fun _ => fun
  | [d1, d2] => { results := [.lit (.bool false)], args := [d1, d2] }
  | _ => none }
def DiskCopyWrongFalsely : Prop := diskCopyRow.holds Try.pinned (OpenSpec.ofChange diskCopyWrong)

/-- 'wicketmanlaw14.WalFiles': WHATEVER THE INPUT: true; the input reads as it did. -/
def walFilesSpec : ChangeSpec := { name := "walFiles", fn := fun _ => fun
  | [d1, d2, d3, d4, d5, d6, d7] => { results := [.lit (.bool true)], args := [d1, d2, d3, d4, d5, d6, d7] }
  | _ => none }
def walFilesRow : OpenClaim := { program := "ytdabflkejhoghaa", sum := "8ba0f3186f8ad0a9a310bf8c352ffac2de714304594766d42ffba752eee2d078", func := "wicketman/wicketmanlaw14.WalFiles", spec := "walFiles", unfollowed := true, recurses := true, apart := false }
def WalFilesSaid : Prop := walFilesRow.holds Try.pinned (OpenSpec.ofChange walFilesSpec)

/-- ITS FALSE NEIGHBOUR: 'it returns false'. Refute it at one input. -/
def walFilesWrong : ChangeSpec := { name := "walFiles", fn := fun _ => fun
  | [d1, d2, d3, d4, d5, d6, d7] => { results := [.lit (.bool false)], args := [d1, d2, d3, d4, d5, d6, d7] }
  | _ => none }
def WalFilesWrongFalsely : Prop := walFilesRow.holds Try.pinned (OpenSpec.ofChange walFilesWrong)

/-- 'wicketmanlaw14.WalAgain': WHATEVER THE INPUT: true; the input reads as it did. -/
def walAgainSpec : ChangeSpec := { name := "walAgain", fn := fun _ => fun
  | [d1, d2, d3, d4] => { results := [.lit (.bool true)], args := [d1, d2, d3, d4] }
  | _ => none }
def walAgainRow : OpenClaim := { program := "ytdabflkejhoghaa", sum := "8ba0f3186f8ad0a9a310bf8c352ffac2de714304594766d42ffba752eee2d078", func := "wicketman/wicketmanlaw14.WalAgain", spec := "walAgain", unfollowed := true, recurses := true, apart := false }
def WalAgainSaid : Prop := walAgainRow.holds Try.pinned (OpenSpec.ofChange walAgainSpec)

/-- ITS FALSE NEIGHBOUR: 'it returns false'. Refute it at one input. -/
def walAgainWrong : ChangeSpec := { name := "walAgain", fn := fun _ => fun
  | [d1, d2, d3, d4] => { results := [.lit (.bool false)], args := [d1, d2, d3, d4] }
  | _ => none }
def WalAgainWrongFalsely : Prop := walAgainRow.holds Try.pinned (OpenSpec.ofChange walAgainWrong)

/-- 'wicketmanlaw14.WalLasts': WHATEVER THE INPUT: true; the input reads as it did. -/
def walLastsSpec : ChangeSpec := { name := "walLasts", fn := fun _ => fun
  | [d1, d2, d3, d4] => { results := [.lit (.bool true)], args := [d1, d2, d3, d4] }
  | _ => none }
def walLastsRow : OpenClaim := { program := "ytdabflkejhoghaa", sum := "8ba0f3186f8ad0a9a310bf8c352ffac2de714304594766d42ffba752eee2d078", func := "wicketman/wicketmanlaw14.WalLasts", spec := "walLasts", unfollowed := true, recurses := true, apart := false }
def WalLastsSaid : Prop := walLastsRow.holds Try.pinned (OpenSpec.ofChange walLastsSpec)

/-- ITS FALSE NEIGHBOUR: 'it returns false'. Refute it at one input. -/
def walLastsWrong : ChangeSpec := { name := "walLasts", fn := fun _ => fun
  | [d1, d2, d3, d4] => { results := [.lit (.bool false)], args := [d1, d2, d3, d4] }
  | _ => none }
def WalLastsWrongFalsely : Prop := walLastsRow.holds Try.pinned (OpenSpec.ofChange walLastsWrong)

/- THE SECOND FORM. 'bulk': how many values and letters a reading holds, each counted each time it is reached (what is shared counts as often as it is met; a slice's spare places count too). A statement '..UptoSaid' is the law's where the arguments, and the package variables that the reading takes, are together of bulk at most 1048576: NARROWER than '..Said'. Prove '..Said' where nothing that the law and all that it calls make is longer than what came in: it says more and counts as full. Else prove '..UptoSaid'. A law counts once. -/
mutual
def uptoBulk {H : Type} : DataW H → Nat
  | .lit (.string bytes) => bytes.length + 1
  | .lit _ => 1
  | .nil => 1
  | .ptr d => uptoBulk d + 1
  | .slice elems spare => uptoBulkAll elems + uptoBulkAll spare + 1
  | .agg parts => uptoBulkAll parts + 1
  | .iface _ d => uptoBulk d + 1
  | .map entries => uptoBulkEntries entries + 1
  | .held _ => 1
def uptoBulkAll {H : Type} : List (DataW H) → Nat
  | [] => 0
  | d :: r => uptoBulk d + uptoBulkAll r
def uptoBulkEntries {H : Type} : List (Lit × DataW H) → Nat
  | [] => 0
  | x :: r => uptoBulkEntry x + uptoBulkEntries r
def uptoBulkEntry {H : Type} : Lit × DataW H → Nat
  | (.string bytes, d) => bytes.length + uptoBulk d + 1
  | (_, d) => uptoBulk d + 1
 end
def uptoSmall : (H : Type) → List (DataW H) → Bool := fun _ ds => decide (uptoBulkAll ds ≤ 1048576)
def OpenSpec.upto (s : _root_.Go.ChangeSpec) : _root_.Go.OpenSpec := { _root_.Go.OpenSpec.ofChange s with cond := some uptoSmall }

/-- 'wicketmanlaw14.WalFull', WHERE WHAT IT READS IS OF BULK AT MOST 1048576: true; the input reads as it did. -/
def walFullUptoRow : OpenClaim := { program := "ytdabflkejhoghaa", sum := "8ba0f3186f8ad0a9a310bf8c352ffac2de714304594766d42ffba752eee2d078", func := "wicketman/wicketmanlaw14.WalFull", spec := "walFull", unfollowed := true, recurses := true, apart := false, narrowed := true }
def WalFullUptoSaid : Prop := walFullUptoRow.holds Try.pinned (OpenSpec.upto walFullSpec)

/-- 'wicketmanlaw14.WalPacks', WHERE WHAT IT READS IS OF BULK AT MOST 1048576: true; the input reads as it did. -/
def walPacksUptoRow : OpenClaim := { program := "ytdabflkejhoghaa", sum := "8ba0f3186f8ad0a9a310bf8c352ffac2de714304594766d42ffba752eee2d078", func := "wicketman/wicketmanlaw14.WalPacks", spec := "walPacks", unfollowed := true, recurses := true, apart := false, narrowed := true }
def WalPacksUptoSaid : Prop := walPacksUptoRow.holds Try.pinned (OpenSpec.upto walPacksSpec)

/-- 'wicketmanlaw14.WalNil', WHERE WHAT IT READS IS OF BULK AT MOST 1048576: true; the input reads as it did. -/
def walNilUptoRow : OpenClaim := { program := "ytdabflkejhoghaa", sum := "8ba0f3186f8ad0a9a310bf8c352ffac2de714304594766d42ffba752eee2d078", func := "wicketman/wicketmanlaw14.WalNil", spec := "walNil", unfollowed := true, recurses := true, apart := false, narrowed := true }
def WalNilUptoSaid : Prop := walNilUptoRow.holds Try.pinned (OpenSpec.upto walNilSpec)

/-- 'wicketmanlaw12.DiskNames', WHERE WHAT IT READS IS OF BULK AT MOST 1048576: true; the input reads as it did. -/
def diskNamesUptoRow : OpenClaim := { program := "ytdabflkejhoghaa", sum := "8ba0f3186f8ad0a9a310bf8c352ffac2de714304594766d42ffba752eee2d078", func := "wicketman/wicketmanlaw12.DiskNames", spec := "diskNames", unfollowed := true, recurses := true, apart := false, narrowed := true }
def DiskNamesUptoSaid : Prop := diskNamesUptoRow.holds Try.pinned (OpenSpec.upto diskNamesSpec)

/-- 'wicketmanlaw12.DiskLasts', WHERE WHAT IT READS IS OF BULK AT MOST 1048576: true; the input reads as it did. -/
def diskLastsUptoRow : OpenClaim := { program := "ytdabflkejhoghaa", sum := "8ba0f3186f8ad0a9a310bf8c352ffac2de714304594766d42ffba752eee2d078", func := "wicketman/wicketmanlaw12.DiskLasts", spec := "diskLasts", unfollowed := true, recurses := true, apart := false, narrowed := true }
def DiskLastsUptoSaid : Prop := diskLastsUptoRow.holds Try.pinned (OpenSpec.upto diskLastsSpec)

/-- 'wicketmanlaw12.DiskFuse', WHERE WHAT IT READS IS OF BULK AT MOST 1048576: true; the input reads as it did. -/
def diskFuseUptoRow : OpenClaim := { program := "ytdabflkejhoghaa", sum := "8ba0f3186f8ad0a9a310bf8c352ffac2de714304594766d42ffba752eee2d078", func := "wicketman/wicketmanlaw12.DiskFuse", spec := "diskFuse", unfollowed := true, recurses := true, apart := false, narrowed := true }
def DiskFuseUptoSaid : Prop := diskFuseUptoRow.holds Try.pinned (OpenSpec.upto diskFuseSpec)

/-- 'wicketmanlaw12.DiskMoves', WHERE WHAT IT READS IS OF BULK AT MOST 1048576: true; the input reads as it did. -/
def diskMovesUptoRow : OpenClaim := { program := "ytdabflkejhoghaa", sum := "8ba0f3186f8ad0a9a310bf8c352ffac2de714304594766d42ffba752eee2d078", func := "wicketman/wicketmanlaw12.DiskMoves", spec := "diskMoves", unfollowed := true, recurses := true, apart := false, narrowed := true }
def DiskMovesUptoSaid : Prop := diskMovesUptoRow.holds Try.pinned (OpenSpec.upto diskMovesSpec)

/-- 'wicketmanlaw12.DiskRoom', WHERE WHAT IT READS IS OF BULK AT MOST 1048576: true; the input reads as it did. -/
def diskRoomUptoRow : OpenClaim := { program := "ytdabflkejhoghaa", sum := "8ba0f3186f8ad0a9a310bf8c352ffac2de714304594766d42ffba752eee2d078", func := "wicketman/wicketmanlaw12.DiskRoom", spec := "diskRoom", unfollowed := true, recurses := true, apart := false, narrowed := true }
def DiskRoomUptoSaid : Prop := diskRoomUptoRow.holds Try.pinned (OpenSpec.upto diskRoomSpec)

/-- 'wicketmanlaw12.DiskCopy', WHERE WHAT IT READS IS OF BULK AT MOST 1048576: true; the input reads as it did. -/
def diskCopyUptoRow : OpenClaim := { program := "ytdabflkejhoghaa", sum := "8ba0f3186f8ad0a9a310bf8c352ffac2de714304594766d42ffba752eee2d078", func := "wicketman/wicketmanlaw12.DiskCopy", spec := "diskCopy", inPlace := ["maps.clone"], unfollowed := true, recurses := true, apart := false, narrowed := true }
def DiskCopyUptoSaid : Prop := diskCopyUptoRow.holds Try.pinned (OpenSpec.upto diskCopySpec)

/-- 'wicketmanlaw14.WalFiles', WHERE WHAT IT READS IS OF BULK AT MOST 1048576: true; the input reads as it did. -/
def walFilesUptoRow : OpenClaim := { program := "ytdabflkejhoghaa", sum := "8ba0f3186f8ad0a9a310bf8c352ffac2de714304594766d42ffba752eee2d078", func := "wicketman/wicketmanlaw14.WalFiles", spec := "walFiles", unfollowed := true, recurses := true, apart := false, narrowed := true }
def WalFilesUptoSaid : Prop := walFilesUptoRow.holds Try.pinned (OpenSpec.upto walFilesSpec)

/-- 'wicketmanlaw14.WalAgain', WHERE WHAT IT READS IS OF BULK AT MOST 1048576: true; the input reads as it did. -/
def walAgainUptoRow : OpenClaim := { program := "ytdabflkejhoghaa", sum := "8ba0f3186f8ad0a9a310bf8c352ffac2de714304594766d42ffba752eee2d078", func := "wicketman/wicketmanlaw14.WalAgain", spec := "walAgain", unfollowed := true, recurses := true, apart := false, narrowed := true }
def WalAgainUptoSaid : Prop := walAgainUptoRow.holds Try.pinned (OpenSpec.upto walAgainSpec)

/-- 'wicketmanlaw14.WalLasts', WHERE WHAT IT READS IS OF BULK AT MOST 1048576: true; the input reads as it did. -/
def walLastsUptoRow : OpenClaim := { program := "ytdabflkejhoghaa", sum := "8ba0f3186f8ad0a9a310bf8c352ffac2de714304594766d42ffba752eee2d078", func := "wicketman/wicketmanlaw14.WalLasts", spec := "walLasts", unfollowed := true, recurses := true, apart := false, narrowed := true }
def WalLastsUptoSaid : Prop := walLastsUptoRow.holds Try.pinned (OpenSpec.upto walLastsSpec)

end Rows
end Go.Proofs.Ytdabflkejhoghaa
