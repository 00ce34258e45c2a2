/- Closed facts of the row, each by the kernel. -/
import Derived.Test.YtbmdocjeepnhmaaGreatDoorCards
import Derived.JoinedOf
import Derived.KernelRfl
set_option linter.unusedVariables false
set_option linter.unusedSimpArgs false
set_option linter.unusedSectionVars false
namespace Go.Proofs.YtbmdocjeepnhmaaGreatDoor.closed
open Go
theorem k10 : ((Rows.topSpillsRow.unfollowed == Tryz.prog.unfollowed 3)) = true := by kernel_rfl
theorem k11 : ((Rows.topSpillsRow.recurses == Tryz.prog.recurses 3)) = true := by kernel_rfl
theorem k12 : ((Rows.topSpillsRow.named == Tryz.prog.varsNamed 3)) = true := by kernel_rfl
theorem k25 : (Tryz.prog.mayEnter) = true := by kernel_rfl
end Go.Proofs.YtbmdocjeepnhmaaGreatDoor.closed
