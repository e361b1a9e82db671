/- DatabasePlays: facts of the program's closure, one by one. -/
import Derived.Test.YtpknaffdaemlbaaGreatDoorLB
namespace Go.Proofs.YtpknaffdaemlbaaGreatDoor
open Go Go.ChangeShapes Go.WideShapes Go.ChangeAt Go.RowKit Go.Ab
namespace L10
theorem jf1 : (Rows.databasePlaysRow.inPlace == Tryz.pinned.checked.prog.inPlace 10) = true := by kernel_rfl
theorem jf2 : (Rows.databasePlaysRow.unfollowed == Tryz.pinned.checked.prog.unfollowed 10) = true := by kernel_rfl
theorem jf3 : (Rows.databasePlaysRow.recurses == Tryz.pinned.checked.prog.recurses 10) = true := by kernel_rfl
theorem jf4 : (Rows.databasePlaysRow.named == Tryz.pinned.checked.prog.varsNamed 10) = true := by kernel_rfl
end L10
end Go.Proofs.YtpknaffdaemlbaaGreatDoor
