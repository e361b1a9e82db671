/- DatabaseReads: facts of the program's closure, one by one. -/
import Derived.Test.YtpknaffdaemlbaaGreatDoorLB
namespace Go.Proofs.YtpknaffdaemlbaaGreatDoor
open Go Go.ChangeShapes Go.WideShapes Go.ChangeAt Go.RowKit Go.Ab
namespace L6
theorem jf1 : (Rows.databaseReadsRow.inPlace == Tryz.pinned.checked.prog.inPlace 6) = true := by kernel_rfl
theorem jf2 : (Rows.databaseReadsRow.unfollowed == Tryz.pinned.checked.prog.unfollowed 6) = true := by kernel_rfl
theorem jf3 : (Rows.databaseReadsRow.recurses == Tryz.pinned.checked.prog.recurses 6) = true := by kernel_rfl
theorem jf4 : (Rows.databaseReadsRow.named == Tryz.pinned.checked.prog.varsNamed 6) = true := by kernel_rfl
end L6
end Go.Proofs.YtpknaffdaemlbaaGreatDoor
