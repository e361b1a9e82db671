/- DatabaseCopies: facts of the program's closure, one by one. -/
import Derived.Test.YtpknaffdaemlbaaGreatDoorLB
namespace Go.Proofs.YtpknaffdaemlbaaGreatDoor
open Go Go.ChangeShapes Go.WideShapes Go.ChangeAt Go.RowKit Go.Ab
namespace L11
theorem jf1 : (Rows.databaseCopiesRow.inPlace == Tryz.pinned.checked.prog.inPlace 11) = true := by kernel_rfl
theorem jf2 : (Rows.databaseCopiesRow.unfollowed == Tryz.pinned.checked.prog.unfollowed 11) = true := by kernel_rfl
theorem jf3 : (Rows.databaseCopiesRow.recurses == Tryz.pinned.checked.prog.recurses 11) = true := by kernel_rfl
theorem jf4 : (Rows.databaseCopiesRow.named == Tryz.pinned.checked.prog.varsNamed 11) = true := by kernel_rfl
end L11
end Go.Proofs.YtpknaffdaemlbaaGreatDoor
